/- What the proofs of this claim share, part 15. No conditions. -/
import Derived.Test.YtjlkgfeepocjfaaGreatDoorMk10
import Derived.Test.YtjlkgfeepocjfaaGreatDoorMk9
import Derived.Test.YtjlkgfeepocjfaaGreatDoorMk12
import Derived.Test.YtjlkgfeepocjfaaGreatDoorMk14
import Derived.Test.YtjlkgfeepocjfaaGreatDoorMk11
import Derived.Test.YtjlkgfeepocjfaaGreatDoorMk8
import Derived.Test.YtjlkgfeepocjfaaGreatDoorMk5
import Derived.Test.YtjlkgfeepocjfaaGreatDoorMk6
import Derived.Tactics2
set_option maxRecDepth 100000
set_option maxHeartbeats 4000000
set_option linter.all false
open Go.Proofs.Tryz
namespace Go.Proofs.YtjlkgfeepocjfaaGreatDoor
open Go.RowKit
variable {q:Int × Nat} {P:Program} {F:Frm} {H:List Ob} {den i id n ty ty':Nat} {p p':Prop} {e:Int} {y:Bk} {l:List (Option (Int × Nat))} {t:Bool} {ps:List Prt} {bs:List Bk} {os zs:List Int} {g:FuncId} {fn:Func} {c:Code}
theorem AlA {p:Int × Nat} {X:Int} {Q:Nat} (h1:Nf p.1 p.2) (h2:Nf q.1 q.2) (e1:p.1*2 ^ Q=X*2 ^ p.2) (e2:q.1*2 ^ Q=X*2 ^ q.2):p=q:=by
 have key:∀ p q:Int × Nat,Nf q.1 q.2→p.1*2 ^ Q=X*2 ^ p.2→q.1*2 ^ Q=X*2 ^ q.2→p.2≤q.2→q.1=p.1*2 ^ (q.2 - p.2):=fun p q _ e1 e2 hle=>by
  have pw:(2:Int) ^ Q≠0:=ic (ga (by decide))
  refine jc pw ?_
  rw [e2,jd,e1,am,←ak]
  congr 2;omega
 have fin:∀ p q:Int × Nat,Nf q.1 q.2→p.1*2 ^ Q=X*2 ^ p.2→q.1*2 ^ Q=X*2 ^ q.2→p.2≤q.2→p=q:=fun p q hq e1 e2 hle=>by
  have h:=key p q hq e1 e2 hle
  by_cases hd:p.2=q.2
  ·rw [hd,et] at h
   refine Prod.ext ?_ hd
   rw [h];show p.1=p.1*1;omega
  ·exfalso
   have ho:=hq.2 (by omega)
   obtain ⟨k,hk⟩:∃ k,q.2 - p.2=k+1:=⟨q.2 - p.2 - 1,by omega⟩
   rw [hk,fw,←am] at h
   omega
 rcases Nat.le_total p.2 q.2 with h|h
 ·exact fin p q h2 e1 e2 h
 ·exact (fin q p h1 e2 e1 h).symm
theorem AlB (p:Int × Nat) {Q:Nat} (h:p.2≤Q):p.1*2 ^ Q=p.1*2 ^ (Q - p.2)*2 ^ p.2:=by
 rw [am,←ak]
 congr 2;omega
theorem Ht:aDy false 0 0=.agg [.val (.bool false),.row false 1 0 [],.val (.int .i64 0)]:=by
 unfold aDy dDy wds
 rw [show (0:Int).natAbs=0 from rfl,AK]
 rfl
theorem ArK {t:Tmp} {k:Nat} (hk:TyK P ty true k) (hi:3=k) (hF:F t=.one (.ref id 0 none):=by with_unfolding_all exact rfl) (hH:H[id]?=some (.box ty' [.d (.val (.bool false)),.d (.val (.slice none 0 0)),.d (.val (.int .i64 0))]):=by with_unfolding_all exact rfl):RV P F H (.cell t ty) (.agg [.val (.bool false),.row false 1 0 [],.val (.int .i64 0)]):=by
 obtain ⟨⟨dd,hu,hd⟩,hz⟩:=hk
 exact .cellA hF hH hu hd (by rw [hz,←hi];rfl) (.cons_ (.d fun _=>.val _) (.cons_ .nil (.cons_ (.d fun _=>.val _) .nil_)))
theorem AcI (k:p') (h:Hd9 p'→p:=by with_reducible first|(intro Z9;refine qq ?_;exact Z9.o)|(intro Z9;refine Tx 0 ?_;refine gN xBo <| gN (xAl Aj) <| gO xA ?_;exact Z9.o)|(intro Z9;refine Tx 1 ?_;refine gO xF <| gO xD <| gO xLe <| gO xM ?_;(first|iterate 3 refine Jd ?_|(refine Jy (xFa Es Az) ?_;refine Jy (xLd Az) ?_;refine Jy xGe ?_));refine gO xPk <| gO xM ?_;(first|iterate 3 refine Jd ?_|(refine Jy (xFa Fa Az) ?_;refine Jy (xLd Az) ?_;refine Jy xLt ?_));refine gO xPk <| gO xM ?_;(first|iterate 3 refine Jd ?_|(refine Jy (xFa Fa Az) ?_;refine Jy (xLd Az) ?_;refine Jy xGt ?_));refine gO xPk ?_;exact Z9.o)|fail):p:=h ⟨k⟩
theorem Agi (k:p') (h:Hd9 p'→p:=by with_reducible first|(intro Z9;refine Tx 2 ?_;refine gO (by exact AF rfl Ga rfl rfl) <| gO (xMi underlying85) <| gZ (xSk Aa) <| gO xA ?_;exact Z9.o)|fail):p:=h ⟨k⟩
theorem XR (h:p:=by
 exact Au rfl (.cons_ (ArK Aa rfl) (.cons_ (.tmp (.one (Bi rfl fun _=>.val _))) .nil_))):p:=h
theorem Sk (n e:Int):CV prog Ah 155 [.agg [dI n,dI e]] [aDy false (if DN n e then Af n 0 e else (0,0)).1 (if DN n e then Af n 0 e else (0,0)).2,aE (if DN n e then 0 else 3)]:=by
 refine cvz func155 ntmps155 ?_
 by_cases hs:DN n e
 case pos =>
  rw [if_pos hs,if_pos hs]
  obtain ⟨s1,s2,s3,s4⟩:=hs
  have OF:=FS n (by omega) (by omega)
  have SH:=BW n 0 e ⟨by decide,fun h=>absurd rfl h⟩ (lT (Aw (k:=2) (by omega)) (by decide)) (by omega)
  repeat' (with_reducible first|refine AcI ?_|(refine Ax (id:=3) 6 AC (by kernel_rfl) ?_;dsimp only [List.take,List.drop];refine gP xF <| gP xD <| gP (xCl func123 (OF)) <| gP xF <| gP xD <| gP (xCl func27 (SH)) ?_;refine Ke ?_;refine gZ (xSk Aa) <| gO xA ?_))
  exact Au rfl (.cons_ (rvW Aa rfl) (.cons_ (Hc rfl rfl) .nil_))
 rw [if_neg hs,if_neg hs,Ht]
 unfold DN at hs
 by_cases c:n ≤ -2147483648
 case pos =>
  repeat' (with_reducible first|refine AcI ?_|refine Agi ?_)
  exact XR
 have ca:=c
 clear c
 by_cases c:2147483648≤n
 case pos =>
  repeat' (with_reducible first|refine AcI ?_|refine Agi ?_)
  exact XR
 have cb:=c
 clear c
 by_cases c:e < -62
 case pos =>
  repeat' (with_reducible first|refine AcI ?_|refine Agi ?_)
  exact XR
 have cc:=c
 clear c
 have cd:30<e:=by omega
 repeat' (with_reducible first|refine AcI ?_|refine Agi ?_)
 exact XR
theorem ZP (n e:Int) (hs:DN n e):CV prog Ah 67 [.agg [dI n,dI e]] [aDy false (Af n 0 e).1 (Af n 0 e).2]:=by
 refine cvz func67 ntmps67 ?_
 have VA:=Sk n e
 rw [if_pos hs,if_pos hs] at VA
 repeat' (with_reducible first|refine qq ?_|(refine Tx 0 ?_;refine gN xBo <| gN (xAl Aj) ?_)|(refine Tx 1 ?_;refine gO xL <| gO (xCl func155 (VA)) <| gO xMt <| gO (by exact CQ rfl rfl rfl) <| gO xEx <| gN (xAl Aj) <| gZ (xSk Aa) <| gO xA ?_)|(refine Tx 2 ?_;refine gO xL <| gZ (xSk Aa) ?_))
 exact Au rfl (.cons_ (rvW Aa rfl) .nil_)
def AqO (bs:List Bk) (j:Nat):Bk:=bs[j]?.getD bk0
def scA (F:List Int) (j:Nat):Int:=F[j]?.getD 0
def XS (ps:List Prt) (a:Int):Int:=(ps[a.toNat]?.getD ⟨0,0,0⟩).fr
def De (b:Bk):Int:=b.args[0]?.getD 0
def FV (b:Bk):Int:=b.args[1]?.getD 0
theorem Wh {l:List Int} {k:Nat} (h:∀ j x,j<k→l[j]?=some x→x=0) (hk:l[k]?=some e) (he:e≠0):Ar l=e:=by
 induction l generalizing k with
 | nil=>simp at hk
 | cons x l ih =>
  unfold Ar
  cases k with
  | zero =>
   have:x=e:=by simpa using hk
   rw [if_neg (by rw [this];exact he),this]
  | succ k =>
   have hx:x=0:=h 0 x (by omega) rfl
   rw [if_pos hx]
   exact ih (k:=k) (fun j y hj hy=>h (j+1) y (by omega) (by simpa using hy)) (by simpa using hk)
section
variable {ps:List Prt} {bs:List Bk} {F:List Int}
theorem LF {j:Nat} (h:bs[j]?=some y):AqO bs j=y:=by unfold AqO;rw [h];rfl
end
section
variable {ps:List Prt} {bs:List Bk} {os:List Int}
theorem Wi (h:AY ps bs os=0) {i:Nat} {y:Bk} (hy:bs[i]?=some y):Cd ps.length bs.length y=0 :=
 Ec (AbK (Ud h).2.1) _ (List.mem_map.2 ⟨y,gM hy,rfl⟩)
theorem GB (h:AY ps bs os=0) {i:Nat} {y:Bk} (hy:bs[i]?=some y):0≤Bw y.kind∧((y.args.length:Nat):Int)=Bw y.kind∧∀ a∈y.args,0≤a∧a<(EE ps.length bs.length y.kind:Int):=XH (Wi h hy)
theorem Ps (h:AY ps bs os=0) {i:Nat} {y:Bk} (hy:bs[i]?=some y) (hv:Pd y.kind=true):DN y.vn y.ve:=by
 have h1:=Wi h hy
 have ha:=GB h hy
 unfold Cd at h1
 rw [if_neg (by omega),if_neg (not_not_intro ha.2.1)] at h1
 by_cases h3:Ar (y.args.map (NK (EE ps.length bs.length y.kind)))=0
 ·rw [if_neg (not_not_intro h3)] at h1
  by_cases h4:CD y.vn y.ve (Pd y.kind)=0
  ·rw [hv] at h4
   unfold CD at h4
   rw [if_pos rfl] at h4
   by_cases h5:DN y.vn y.ve
   ·exact h5
   ·rw [if_neg h5] at h4;cases h4
  ·rw [if_pos h4] at h1
   exact absurd h1 h4
 ·rw [if_pos h3] at h1
  cases h1
theorem Agj (h:AY ps bs os=0) {i:Nat} {p:Prt} (hp:ps[i]?=some p):Fv p=0:=by
 have h1:=(Ud h).2.1
 unfold Fl at h1
 rw [Bp] at h1
 by_cases h2:Ar (ps.map Fv)=0
 ·exact Ec h2 _ (List.mem_map.2 ⟨p,gM hp,rfl⟩)
 ·rw [if_neg h2] at h1
  exact absurd h1 h2
theorem Pt {u:Nat} (h:(Co bs)[u]?=some i):i<bs.length∧Dp bs i≠2:=(Pa bs.length (GY.nil bs)).mem i (gM h)
theorem Sl:(Co bs).length≤bs.length:=lT (Pa bs.length (GY.nil bs)).le (Hm bs)
end
abbrev EH (p:Int × Nat):Bool:=Um p.1.natAbs p.2
def cV:Option (Int × Nat)→List C
 | none=>[.d (.val (.bool false)),.d (.val (.slice none 0 0)),.d (.val (.int .i64 0))]
 | some p=>(dDy false p.1 p.2).map C.d
def cVs (l:List (Option (Int × Nat))):List C:=(l.map cV).flatten
def gV (l:List (Option (Int × Nat))):List (Int × Nat):=l.map (·.getD (0,0))
theorem Pu (o:Option (Int × Nat)):(cV o).length=3:=by cases o <;> rfl
theorem AlC (l:List (Option (Int × Nat))):(cVs l).length=l.length*3:=by
 induction l with
 | nil=>rfl
 | cons o l ih =>
  have:(cVs (o::l)).length=(cV o).length+(cVs l).length:=by simp [cVs]
  rw [this,ih,Pu,bw];omega
theorem GD (o:Option (Int × Nat)) (l:List (Option (Int × Nat))):cVs (o::l)=cV o++cVs l:=by simp [cVs]
theorem AhS:∀ {l:List (Option (Int × Nat))} {i:Nat} {o:Option (Int × Nat)},l[i]?=some o→((cVs l).drop (i*3)).take 3=cV o
 | [],i,o,h=>by simp at h
 | q::l,0,o,h=>by
  simp only [gu,Option.some.injEq] at h
  subst h
  rw [GD,fm,gq,jx (by rw [Pu];omega),aj (by rw [Pu];omega)]
 | q::l,i+1,o,h=>by
  simp only [fi] at h
  rw [GD,show (i+1)*3=(cV q).length+i*3 by rw [Pu];omega,←jg,jh]
  exact AhS h
theorem AcJ:∀ {l:List (Option (Int × Nat))} {i:Nat} (p:Int × Nat),i<l.length→(cVs l).take (i*3)++(dDy false p.1 p.2).map C.d++(cVs l).drop (i*3+3)=cVs (l.set i (some p))
 | [],i,p,h=>by simp at h
 | q::l,0,p,h=>by
  rw [GD,fm,jy,dv,av,bl,GD,show (3:Nat)=(cV q).length from (Pu q).symm,jh]
  rfl
 | q::l,i+1,p,h=>by
  have ih:=AcJ (l:=l) (i:=i) p (by simpa using h)
  rw [GD,bo,GD,←ih,show (i+1)*3+3=(cV q).length+(i*3+3) by rw [Pu];omega,←jg,jh,show (i+1)*3=(cV q).length+i*3 by rw [Pu];omega,List.take_length_add_append]
  simp
theorem AlD (n:Nat):ET (madeCells (Value.agg #[.bool false,.slice none 0 0,.int .i64 0]).cells (n*3)).toList=cVs (List.replicate n none):=by
 have h1:∀ a:Nat,(madeCells (Value.agg #[.bool false,.slice none 0 0,.int .i64 0]).cells a).toList=(List.range a).map (fun j=>#[Value.bool false,.slice none 0 0,.int .i64 0][j % 3]!):=fun a=>by
  unfold madeCells
  rw [kx,Array.toList_range]
  rfl
 rw [h1]
 induction n with
 | zero=>rfl
 | succ n ih =>
  rw [show (n+1)*3=n*3+1+1+1 by omega,dk,dk,dk,List.replicate_succ']
  simp only [gc,ET] at ih ⊢
  rw [ih]
  simp only [cVs,gc,List.flatten_append,bp,iq,show n*3 % 3=0 by omega,show (n*3+1) % 3=1 by omega,show (n*3+1+1) % 3=2 by omega,List.append_assoc]
  rfl
theorem Pv:∀ c∈cVs l,C.bel n c:=fun c hc=>by
 obtain ⟨cs,hcs,hc⟩:=List.mem_flatten.1 hc
 obtain ⟨o,_,rfl⟩:=List.mem_map.1 hcs
 cases o with
 | none=>simp [cV] at hc;rcases hc with rfl|rfl|rfl <;> trivial
 | some p=>exact AcH c hc
theorem Nj (x:Int) (d:Nat):∀ u∈dDy false x d,DY u:=fun u hu=>by
 simp only [dDy,cr,ct,or_false] at hu
 rcases hu with rfl|rfl|rfl
 ·exact .val _
 ·refine .row fun u hu=>?_
  obtain ⟨v,_,rfl⟩:=List.mem_map.1 hu
  exact .val _
 ·exact .val _
theorem AoT (o:Option (Int × Nat)):Ba (FB t H) (cV o) (dyP (o.getD (0,0))):=by
 cases o with
 | none =>
  show Ba (FB t H) _ (dDy false 0 0)
  have e:dDy false 0 0=[.val (.bool false),.row false 1 0 [],.val (.int .i64 0)]:=A.agg.inj Ht
  rw [e]
  exact .cons_ (.d fun _=>.val _) (.cons_ .nil (.cons_ (.d fun _=>.val _) .nil_))
 | some p=>exact Ba.map_l.2 ⟨rfl,fun j a b ha hb=>by
   have:(dDy false p.1 p.2)[j]?=some b:=hb
   rw [ha] at this
   cases this
   exact .d fun _=>Nj _ _ a (gM ha)⟩
theorem AlE (l:List (Option (Int × Nat))):Ba (FB t H) (cVs l) (An dyP (gV l)):=by
 induction l with
 | nil=>exact Ba.nil_
 | cons o l ih =>
  rw [GD]
  exact (AoT o).app ih
theorem AlF {c:C} {y:D} (hc:c=.own id n) (hH:H[id]?=some (.row ty 3 n (cVs l))) (hy:y=.row t 3 n (An dyP (gV l))):FB t H c y:=Dc hc hH hy (AlE l)
theorem AcK {c:C} {y:D} {l:List (Int × Nat)} (hc:c=.own id n) (hH:H[id]?=some (.row ty 3 n ((An dyP l).map C.d))) (hy:y=.row t 3 n (An dyP l)):FB t H c y :=
 Dc hc hH hy (Ba.map_l.2 ⟨rfl,fun j a b ha hb=>by
  rw [ha] at hb
  cases hb
  exact .d fun _=>BV (f:=dyP) (fun p=>Nj _ _) l a (gM ha)⟩)
section
variable {P:Program} {G:World→Prop} {o:Oper} {F:Frm} {H:List Ob}
theorem Agk {t e:TypeId} {x y:Operand} {by_:Nat} {k k':IntKind} (ho:o.op=.makeSlice t x y) (hx:F.ev x=.one (.d (.val (.int k (n:Int))))) (hy:F.ev y=.one (.d (.val (.int k' (n:Int))))) (ht:TyS P t e 3) (hz:TyZ P e (.agg #[.bool false,.slice none 0 0,.int .i64 0]) 3 by_) (hn:n≤1000000) (hby:by_≤1000) :
  AZ P G o F H (.one (.own H.length n)) [.row e 3 n (cVs (List.replicate n none))]:=by
 have:=BG (P:=P) (G:=G) (H:=H) ho hx hy ht hz hn hby
 rwa [AlD] at this
theorem AcL {t ty:TypeId} {x:Operand} {p:Int × Nat} (ho:o.op=.load t x) (hx:F.ev x=.one (.ref id (i*3) (some n))) (hH:H[id]?=some (.row ty 3 n (cVs l))) (hp:l[i]?=some (some p)) (hk:TyK P t true 3):AZ P G o F H (.agg ((dDy false p.1 p.2).map C.d)) [] :=
 RH ho hx (.row hH) hk (AhS hp) rfl
theorem AhT {t ty:TypeId} {x y:Operand} {l':List (Option (Int × Nat))} {p:Int × Nat} (ho:o.op=.store t x y) (hx:F.ev x=.one (.ref id (i*3) (some n))) (hH:H[id]?=some (.row ty 3 n (cVs l))) (hy:F.ev y=.agg ((dDy false p.1 p.2).map C.d)) (hty:TyK P t true 3) (hi:i<l.length) (hl:l.set i (some p)=l'):TOk P G o F H .any (H.set id (.row ty 3 n (cVs l'))):=by
 have h3:((dDy false p.1 p.2).map C.d).length=3:=rfl
 have:=Mi (P:=P) (G:=G) ho hx hH rfl (show ES (F.ev y)=some ((dDy false p.1 p.2).map C.d) by rw [hy];rfl) hty rfl (by rw [h3];show i*3+3≤(cVs l).length;rw [AlC];omega)
 rw [h3] at this
 simp only [Ob.cs,Ob.setC] at this
 rw [AcJ p hi,hl] at this
 exact this
end
def LB:Nat:=4096
theorem LBx:LB≤20000:=by decide
def LC:Nat:=9000
theorem lb_c:LB≤LC:=by decide
theorem AlG {p:Int × Nat} (hn:Nf p.1 p.2) (h:EH p=false):Sm p LB LB:=by
 have h1:¬ 4096<max (Bj p.1.natAbs) p.2:=of_decide_eq_false h
 exact ⟨hn,Dj.1 (by unfold LB;omega),by unfold LB;omega⟩
def AqP (bs:List Bk) (i:Nat):Nat:=(((bs[i]?.map Bk.args).getD [])[0]?.getD 0).toNat
theorem Sm.zero (n d:Nat):Sm (0,0) n d:=⟨⟨by decide,fun h=>absurd rfl h⟩,bd n,ad d⟩
theorem DA {l:List (Int × Nat)} {d:Nat} (h:∀ p∈l,Sm p n d) (k:Nat):Sm (l[k]?.getD (0,0)) n d:=by
 cases hk:l[k]? with
 | none=>exact Sm.zero n d
 | some p=>exact h p (gM hk)
theorem Ot (h:AY ps bs os=0) {i:Nat} {y:Bk} (hy:bs[i]?=some y) (hk:y.kind=11):DN y.vn y.ve∧DN y.un y.ue∧Bm (Af y.vn 0 y.ve).1 (Af y.vn 0 y.ve).2 (Af y.un 0 y.ue).1 (Af y.un 0 y.ue).2≤0:=by
 have h1:=Wi h hy
 have ha:=GB h hy
 have hv:=Ps h hy (by unfold Pd;rw [hk];rfl)
 unfold Cd at h1
 rw [if_neg (by omega),if_neg (not_not_intro ha.2.1)] at h1
 by_cases h3:Ar (y.args.map (NK (EE ps.length bs.length y.kind)))=0
 ·rw [if_neg (not_not_intro h3)] at h1
  by_cases h4:CD y.vn y.ve (Pd y.kind)=0
  ·rw [if_neg (not_not_intro h4)] at h1
   by_cases h5:CD y.un y.ue (Lz y.kind)=0
   ·rw [if_neg (not_not_intro h5)] at h1
    have hc:Lz y.kind=true:=by unfold Lz;rw [hk];rfl
    rw [hc] at h5
    have hu:=Pe h5
    refine ⟨hv,hu,?_⟩
    rw [Aci (Ip hv.2.2.1 hv.2.2.2) (Ip hu.2.2.1 hu.2.2.2)]
    by_cases h6:0<NJ y.vn y.ve y.un y.ue
    ·rw [if_pos ⟨hc,h6⟩] at h1;cases h1
    ·exact Int.not_lt.1 h6
   ·rw [if_pos h5] at h1;exact absurd h1 h5
  ·rw [if_pos h4] at h1;exact absurd h1 h4
 ·rw [if_pos h3] at h1;cases h1
theorem XT (h:AY ps bs os=0) {i:Nat} {y:Bk} (hy:bs[i]?=some y):y.kind=0∨y.kind=1∨y.kind=2∨y.kind=3∨y.kind=4∨y.kind=5∨y.kind=6∨y.kind=7∨y.kind=8∨y.kind=9∨y.kind=10∨y.kind=11:=by
 have:=(GB h hy).1
 unfold Bw at this
 (repeat' split at this) <;> omega
theorem Hu (h:bs[i]?=some y):Dp bs i=y.kind:=by unfold Dp;rw [h];rfl
theorem Agl (h:bs[i]?=some y) (h0:y.kind≠0):NI bs i=y.args:=by
 unfold NI Xt
 rw [Hu h,if_neg h0,h]
 rfl
def AhU (bs:List Bk) (t:Nat) (i:Nat):Prop:=(i<bs.length∧Dp bs i=2)∨i∈(Co bs).take t
theorem LH {l:List Nat} {t j:Nat} (h:l[t]?=some j):(BU l)[t]?=some (j:Int):=by simp [BU,h]
def okQ {α:Type} (e:Int) (l:List α):List α:=if e=0 then l else []
theorem NN {α:Type} (h:e≠0) (l:List α):okQ e l=[]:=if_neg h
theorem Un {α:Type} (h:e=0) (l:List α):okQ e l=l:=if_pos h
def AmK (l:List (Int × Nat)):A:=.one (.row false 3 l.length (An dyP l))
def rvP (r:Rv):Int × Nat:=(r.rw.x,r.rw.d)
def AoU (rs:List Rv):D:=.row false 3 rs.length (An (dRv false) rs)
theorem Agm {rs:List Rv} {k:Nat} {r:Rv} (h:rs[k]?=some r):((An (dRv false) rs).drop (k*3)).take 3=dRv false r:=FE (f:=dRv false) (s:=3) (fun _=>rfl) h
theorem Dr {α:Type} {p:α→Prop} {l:List α} {k:Nat} {x:α} (h:∀ q∈l.take k,p q) (hx:l[k]?=some x) (hp:p x):∀ q∈l.take (k+1),p q:=fun q hq=>by
 rw [bh,hx] at hq
 rcases List.mem_append.1 hq with hq|hq
 ·exact h q hq
 ·simp only [fp,cr,ct,or_false] at hq
  rw [hq];exact hp
theorem Sn {p:Nat→Prop} {k:Nat} (h:∀ i,i<k→p i) (hk:p k):∀ i,i<k+1→p i:=fun i hi=>by
 by_cases hik:i=k
 ·rw [hik];exact hk
 ·exact h i (by omega)
theorem Hv {k:Nat} (h:(AX bs)[k]?=some i):i<bs.length∧Dp bs i=2:=by
 have:=gM h
 unfold AX at this
 rw [List.mem_filter,jv] at this
 exact ⟨this.1,by simpa using this.2⟩
theorem Wj (h:AY ps bs os=0) {i:Nat} {y:Bk} (hy:bs[i]?=some y) (hk:y.kind=2):∃ b:Nat,y.args[0]?=some (b:Int)∧b<bs.length:=by
 have hA:=GB h hy
 have h1:=hA.2.1
 rw [hk] at h1
 have hl1:y.args.length=1:=by unfold Bw at h1;(repeat' split at h1) <;> omega
 obtain ⟨a,ha⟩:∃ a,y.args[0]?=some a:=⟨_,gE (by omega)⟩
 have hb:=hA.2.2 a (gM ha)
 rw [show EE ps.length bs.length y.kind=bs.length from if_neg (by omega)] at hb
 exact ⟨a.toNat,by rw [ha];congr 1;omega,by omega⟩
theorem Wl {b:Nat} (hy:bs[i]?=some y) (ha:y.args[0]?=some (b:Int)):AqP bs i=b:=by
 unfold AqP
 rw [hy,dc,bf,ha]
 rfl
section
variable {P:Program}
def AhV (P:Program) (g:FuncId) (vs:List Value) (p:Int→Bool) (zs:List Int) (w:World):Prop:=∀ w',Below w.heap.size w w'→∀ z∈zs,Calls P g (Value.int .i64 z::vs).toArray w' fun e w2=>e=.returned (.bool (p z))∧Below w'.heap.size w' w2
theorem fn_G {vs:List Value} {p:Int→Bool}:∀ w w',Below w.heap.size w w'→AhV P g vs p zs w→AhV P g vs p zs w':=fun _ _ hb h w2 hb2=>h w2 (hb.trans (hb2.mono hb.size))
variable {o:Oper} {F:Frm} {H:List Ob}
theorem QV {vs : List Value} {p : Int → Bool} {r x : Operand} {ts : Array TypeId} {z : Int} (hf : P.funcs[g]? = some fn) (hz : z ∈ zs) (hn : (fn.name == "runtime.NumGoroutine") = false := by kernel_rfl) (hb : fn.body = some c := by with_unfolding_all exact rfl)
  (ho:o.op=.call { callee:=.value r,args:=#[x],argTypes:=ts }:=by with_unfolding_all exact rfl) (hr:F.ev r=.one (.d (.val (.func (.func g) #[] vs.toArray))):=by with_unfolding_all exact rfl) (hx:F.ev x=.one (.d (.val (.int .i64 z))):=by with_unfolding_all exact rfl) :
  AZ P (AhV P g vs p zs) o F H (.one (.d (.val (.bool (p z))))) []:=by
 intro b0 m a hp hcx hg hb0 _ hor K Q hK
 have er:=DK (m:=m) (v:=a.eval r) (by rw [←hr];exact Bc hor (by rw [ho];simp [Op.operands,Call.operands]))
 have ex:=DK (m:=m) (v:=a.eval x) (by rw [←hx];exact Bc hor (by rw [ho];simp [Op.operands,Call.operands]))
 unfold Oper.wp execOp
 simp only [ho,resolve,er,Deferred.ofValue,ah,bq,az,invoke]
 rw [Ff hf hn hb]
 rw [gx]
 have he:((#[]:Array Value)++#[x].map a.eval++vs.toArray)=(Value.int .i64 z::vs).toArray:=fy (by simp [ex])
 rw [he]
 refine (hg m.w (ab _ _) z hz).mono fun e w' ⟨hev,hbel⟩=>?_
 subst hev
 exact hK _ w' [] ⟨rfl,hbel,fun k e hk=>by simp at hk,List.Pairwise.nil⟩ (Bx.val rfl)
theorem Agn {f:FuncId} {x y:Operand} {ts:Array TypeId} {p:Int→Bool} {rs:List (Nat × Nat × Option Nat)} {cargs:List A} {b:Bool} {Gt:World→Prop} (hG:∀ w w',Below w.heap.size w w'→Gt w→Gt w') (hf:P.funcs[f]?=some fn) (h:∀ vs,CV P (AhV P g vs p zs) f [.one (AU t zs),.one (.val (.func (.func g) #[] vs.toArray))] [aB b]) (hC:∀ z∈zs,CV P Gt g (aI z::cargs) [aB (p z)])
  (hn : (fn.name == "runtime.NumGoroutine") = false := by kernel_rfl) (hb : fn.body = some c := by with_unfolding_all exact rfl)
  (ho:o.op=.call { callee:=.value (.func f),args:=#[x,y],argTypes:=ts }:=by with_unfolding_all exact rfl) (hx:F.ev x=.one (.d (AU t zs)):=by with_unfolding_all exact rfl) (hy:F.ev y=.one (.clo (.func g) rs):=by with_unfolding_all exact rfl)
  (hcl:Ba (fun (p:Nat × Nat × Option Nat) y=>LW true H (.one (.ref p.1 p.2.1 p.2.2)) y) rs cargs:=by with_unfolding_all first|((repeat' first|exact Br rfl rfl|refine AO rfl rfl ?_ ?_|exact TX rfl) <;> fail)|fail):AZ P Gt o F H (.one (.d (.val (.bool b)))) []:=by
 intro b0 m a hp hcx hg hb0 _ hor K Q hK
 rw [bc] at hp
 have h1:=Bc (F:=F) hor (x:=x) (by rw [ho];simp [Op.operands,Call.operands])
 have h2:=Bc (F:=F) hor (x:=y) (by rw [ho];simp [Op.operands,Call.operands])
 rw [hx] at h1
 rw [hy] at h2
 obtain ⟨vs,hve,hvl⟩:=h2
 let Sx:EN:=fun t b=>m.S t b∨(t=true∧∃ id e,m.E id=some e∧e.own=some b)
 have hlt:∀ t b,Sx t b→b<m.w.heap.size:=fun t b hb=>by
  rcases hb with hb|⟨_,id,e,he,hown⟩
  ·exact hcx.lt t b hb
  ·exact (Et.lt (hcx.each id e he).1 hown).2
 have hc':Ba (Ft m.w Sx) cargs vs:=⟨hcl.1.symm.trans hvl.1,fun j y v hy hv=>by
   obtain ⟨p,hpj⟩:∃ p,rs[j]?=some p:=⟨_,gE (by have:=(gS.1 hv).1;have:=hvl.1;omega)⟩
   exact LW.rel (x:=.one (.ref p.1 p.2.1 p.2.2)) hcx (fun b hb=>.inl hb) (fun _ b hb=>.inl hb) (fun id e g he hg=>.inr ⟨rfl,id,e,he,hg⟩) ((hcl.2 j p y hpj hy).pre hp) (hvl.2 j p v hpj hv)⟩
 have hfn:AhV P g vs p zs m.w:=fun w' hb' z hz =>
  (hC z hz w' Sx (Value.int .i64 z::vs) (hG _ _ hb' hg) (fun t b hb=>al (hlt t b hb) hb'.size) (.cons_ (Bx.val rfl) (hc'.imp fun _ _=>Ft.mono (fun _ _ h=>h) fun t b hb=>hb'.block b (hlt t b hb)))).mono fun e w2 ⟨v,he,hr,hbl⟩=>by
   have h4:Bx w2 _ (dB (p z)) v:=hr
   cases h4
   exact ⟨he,hbl⟩
 have hcalls:=h vs m.w Sx [a.eval x,.func (.func g) #[] vs.toArray] hfn hlt (.cons_ (Bx.mono (fun t b hb=>.inl hb) (fun _ _ _=>rfl) h1) (.cons_ (Bx.val rfl) .nil_))
 unfold Oper.wp execOp
 simp only [ho,resolve,Act.eval,Deferred.ofValue,ah,bq,az,invoke]
 rw [Ff hf hn hb]
 rw [gx]
 have he:((#[]:Array Value)++#[x,y].map a.eval++#[])=[a.eval x,.func (.func g) #[] vs.toArray].toArray:=fy (by simp [hve])
 rw [he]
 refine hcalls.mono fun e w' ⟨v,hev,hr,hbel⟩=>?_
 subst hev
 have h4:Bx w' _ (dB b) v:=hr
 cases h4
 exact hK _ w' [] ⟨rfl,hbel,fun k e hk=>by simp at hk,List.Pairwise.nil⟩ (Bx.val rfl)
end
def Ago (p:Int→Bool):List Int→Nat→Int
 | [],_ => -1
 | z::l,k=>if p z=true then (k:Int) else Ago p l (k+1)
theorem So {p:Int→Bool} {zs:List Int}:∀ {k:Nat},(∀ z∈zs.take k,p z=false)→k≤zs.length→Ago p zs 0=Ago p (zs.drop k) k
 | 0,_,_=>rfl
 | k+1,h,hk=>by
  obtain ⟨z,hz⟩:∃ z,zs[k]?=some z:=⟨_,gE (by omega)⟩
  rw [So (k:=k) (fun z hz=>h z (by rw [bh];exact List.mem_append_left _ hz)) (by omega),dz (by omega)]
  have he:zs[k]=z:=by obtain ⟨h1,h2⟩:=gS.1 hz;exact h2
  rw [he]
  have:=h z (by rw [bh,hz];simp)
  show (if p z=true then (k:Int) else Ago p (zs.drop (k+1)) (k+1))=_
  rw [this]
  rfl
theorem AcM {p:Int→Bool}:∀ (zs:List Int) (k:Nat),decide (0≤Ago p zs k)=zs.any p
 | [],_=>rfl
 | z::l,k=>by
  unfold Ago
  rw [List.any_cons]
  cases h:p z with
  | true=>simp
  | false=>simpa using AcM l (k+1)
theorem Agp (hf : prog.funcs[g]? = some fn) (hn : (fn.name == "runtime.NumGoroutine") = false) (hbd : fn.body = some c) (t : Bool) (vs : List Value) (p : Int → Bool) (zs : List Int) (hl : zs.length ≤ 1000000) : CV prog (AhV prog g vs p zs) 209 [.one (AU t zs), .one (.val (.func (.func g) #[] vs.toArray))] [aI (Ago p zs 0)] := by
 refine Aks fn_G func209 rfl ntmps209 (ax rfl) ?_
 repeat' (with_reducible first|refine qq ?_|(refine Tx 0 ?_;refine gO xA ?_)|(refine Tx 1 ?_;refine gO xM <| gO xN <| gO xM ?_))
 refine AJ (Be 0) (Al (fun n Fr H=>∃ k:Nat,k≤zs.length∧n=zs.length - k∧(∀ z∈zs.take k,p z=false)∧Fr=ofL [(0,vd (AU t zs)),(1,vd (.val (.func (.func g) #[] vs.toArray))),(7,vi zs.length),(8,vi ((k:Nat)))]∧H=[]) (n0:=zs.length) ⟨0,ad _,rfl,(fun z hz=>by simp at hz),rfl,rfl⟩ ?_)
 rintro n Fr H ⟨k,hk,rfl,hall,rfl,rfl⟩
 by_cases hlt:k<zs.length
 case pos =>
  obtain ⟨z,hz⟩:∃ z,zs[k]?=some z:=⟨_,gE hlt⟩
  have hzm:=gM hz
  have hsk:=So hall hk
  rw [dz hlt,(gS.1 hz).2,show Ago p (z::zs.drop (k+1)) k=if p z=true then (k:Int) else Ago p (zs.drop (k+1)) (k+1) from rfl] at hsk
  cases hp:p z
  case true =>
   rw [hp,if_pos rfl] at hsk
   repeat' (with_reducible first|refine qq ?_|(refine Tx 2 ?_;refine gO xLt ?_)|(refine Tx 3 ?_;refine gO xM <| gO xA ?_)|(refine Tx 4 ?_;refine gO xM <| gO xM <| gO xM <| gO (xIr Ae (Ay hz)) <| gO xD <| gO (by exact (hp ▸ QV (p:=p) hf hzm hn hbd)) ?_)|(refine Tx 5 ?_;refine gO xM <| gO xA ?_))
   exact Au rfl (.cons_ (Lw rfl hsk.symm) .nil_)
  rw [hp,if_neg (by decide)] at hsk
  repeat' (with_reducible first|refine qq ?_|(refine Tx 2 ?_;refine gO xLt ?_)|(refine Tx 3 ?_;refine gO xM <| gO xA ?_)|(refine Tx 4 ?_;refine gO xM <| gO xM <| gO xM <| gO (xIr Ae (Ay hz)) <| gO xD <| gO (by exact (hp ▸ QV (p:=p) hf hzm hn hbd)) ?_)|(refine Tx 6 ?_;refine gO xAd <| gO xM ?_))
  refine ⟨_,_,Be 0,_,by omega,k+1,by omega,rfl,Dr hall hz hp,rfl,rfl⟩
 obtain rfl:k=zs.length:=by omega
 have hsk:=So hall hk
 rw [ew] at hsk
 repeat' (with_reducible first|refine qq ?_|(refine Tx 2 ?_;refine gO xLt ?_)|(refine Tx 7 ?_;refine gO xA ?_))
 exact Au rfl (.cons_ (Lw rfl hsk.symm) .nil_)
theorem Wm (hf : prog.funcs[g]? = some fn) (hn : (fn.name == "runtime.NumGoroutine") = false) (hbd : fn.body = some c) (t : Bool) (vs : List Value) (p : Int → Bool) (zs : List Int) (hl : zs.length ≤ 1000000) : CV prog (AhV prog g vs p zs) 127 [.one (AU t zs), .one (.val (.func (.func g) #[] vs.toArray))] [aB (zs.any p)] := by
 refine Aks fn_G func127 rfl ntmps127 (ax rfl) ?_
 have IX:=Agp hf hn hbd t vs p zs hl
 rw [←AcM zs 0]
 repeat' (with_reducible first|refine qq ?_|(refine Tx 0 ?_;refine gO xA ?_)|(refine Tx 1 ?_;refine gO xM <| gO xM <| gO (xCl func209 (IX)) <| gO xGe <| gO xA ?_))
 exact Au rfl (.cons_ (Db rfl rfl) .nil_)
def GQ:Nat:=65536
def gv (p:Int × Nat):Int:=p.1*2 ^ (GQ - p.2)
theorem AcN (n:Nat):(2:Int) ^ n≠0:=ic (ga (by decide))
theorem Bf (n:Nat):(0:Int)<2 ^ n:=ga (by decide)
theorem Sp {p:Int × Nat} (h:p.2≤GQ):p.1*2 ^ GQ=gv p*2 ^ p.2:=AlB p h
theorem Nf.le {x:Int} {d:Nat} (h:Nf x d):d≤GQ:=h.1
theorem ZQ {m:Int} {d:Nat} (h:d≤GQ):gv (nf m d)=m*2 ^ (GQ - d):=by
 have e:=AaN m d
 have l:=Vv m d
 refine jc (AcN d) ?_
 unfold gv
 rw [jd,e,am,am,←ak,←ak]
 congr 2
 omega
theorem El (p:Int × Nat):gv (-p.1,p.2) = -gv p:=di ..
theorem GE:gv (0,0)=0:=Int.zero_mul _
theorem Pw (p:Int × Nat):gv (((p.1.natAbs:Nat):Int),p.2)=((gv p).natAbs:Int):=by
 unfold gv
 rw [gl,iy,fx]
 congr 1
theorem Hw {p:Int × Nat} (hp:p.2≤GQ) (hq:q.2≤GQ):gv (CR p.1 p.2 q.1 q.2)=gv p+gv q:=by
 unfold CR
 rw [ZQ (by omega),Int.add_mul,am,am,←ak,←ak,show max p.2 q.2 - p.2+(GQ - max p.2 q.2)=GQ - p.2 by omega,show max p.2 q.2 - q.2+(GQ - max p.2 q.2)=GQ - q.2 by omega]
 rfl
theorem AcO {p:Int × Nat} (h:p.2+q.2≤GQ):gv (Pk p.1 p.2 q.1 q.2)*2 ^ GQ=gv p*gv q:=by
 unfold Pk
 rw [ZQ h]
 unfold gv
 have e1:p.1*q.1*2 ^ (GQ - (p.2+q.2))*2 ^ GQ=p.1*q.1*2 ^ (GQ - (p.2+q.2)+GQ):=by rw [am,←ak]
 have e2:p.1*2 ^ (GQ - p.2)*(q.1*2 ^ (GQ - q.2))=p.1*q.1*2 ^ (GQ - p.2+(GQ - q.2)):=by rw [ak];simp only [am,Int.mul_left_comm,du]
 rw [e1,e2]
 congr 2
 omega
theorem AcP {p:Int × Nat} (hp:p.2≤GQ) (hq:q.2≤GQ):Bm p.1 p.2 q.1 q.2=sgI (gv p - gv q):=Aci (Sp hp) (Sp hq)
theorem Nu {p:Int × Nat} (hp:Nf p.1 p.2) (hq:Nf q.1 q.2) (h:gv p=gv q):p=q:=AlA hp hq (Sp hp.le) (by rw [h];exact Sp hq.le)
theorem Hx {p:Int × Nat} (hp:p.2≤GQ) (hq:q.2≤GQ):Bm p.1 p.2 q.1 q.2≤0 ↔ gv p≤gv q:=by
 rw [AcP hp hq,Dd]
 by_cases h1:gv p<gv q
 ·rw [if_pos h1];exact ⟨fun _=>bg h1,fun _=>by decide⟩
 ·rw [if_neg h1]
  by_cases h2:gv q<gv p
  ·rw [if_pos h2];exact ⟨fun h=>absurd h (by decide),fun h=>by omega⟩
  ·rw [if_neg h2];exact ⟨fun _=>by omega,fun _=>by decide⟩
theorem AhW {p:Int × Nat} (hp:p.2≤GQ) (hq:q.2≤GQ):Bm p.1 p.2 q.1 q.2=0 ↔ gv p=gv q:=by
 rw [AcP hp hq,Dd]
 by_cases h1:gv p<gv q
 ·rw [if_pos h1];exact ⟨fun h=>absurd h (by decide),fun h=>by omega⟩
 ·rw [if_neg h1]
  by_cases h2:gv q<gv p
  ·rw [if_pos h2];exact ⟨fun h=>absurd h (by decide),fun h=>by omega⟩
  ·rw [if_neg h2];exact ⟨fun _=>by omega,fun _=>rfl⟩
theorem Px {p:Int × Nat} (hp:p.2≤GQ) (hq:q.2≤GQ):0≤Bm p.1 p.2 q.1 q.2 ↔ gv q≤gv p:=by
 rw [AcP hp hq,Dd]
 by_cases h1:gv p<gv q
 ·rw [if_pos h1];exact ⟨fun h=>absurd h (by decide),fun h=>by omega⟩
 ·rw [if_neg h1]
  by_cases h2:gv q<gv p
  ·rw [if_pos h2];exact ⟨fun _=>by omega,fun _=>by decide⟩
  ·rw [if_neg h2];exact ⟨fun _=>by omega,fun _=>by decide⟩
theorem AoV {p:Int × Nat} (hp:p.2≤GQ) (hq:q.2≤GQ):GW p.1 p.2 q.1 q.2=if gv q<gv p then q else p:=by
 unfold GW
 by_cases h:gv q<gv p
 ·rw [if_pos h,if_pos (Int.not_le.1 fun hc=>by have:=(Hx hp hq).1 hc;omega)]
 ·rw [if_neg h,if_neg (by have:=(Hx hp hq).2 (by omega);omega)]
theorem AoW {p:Int × Nat} (hp:p.2≤GQ) (hq:q.2≤GQ):FX p.1 p.2 q.1 q.2=if gv p<gv q then q else p:=by
 unfold FX
 by_cases h:gv p<gv q
 ·rw [if_pos h,if_pos (Int.not_le.1 fun hc=>by have:=(Px hp hq).1 hc;omega)]
 ·rw [if_neg h,if_neg (by have:=(Px hp hq).2 (by omega);omega)]
theorem GM {p:Int × Nat} (hp:p.2≤GQ) (hq:q.2≤GQ):gv (GW p.1 p.2 q.1 q.2)=min (gv p) (gv q):=by
 rw [AoV hp hq]
 split <;> omega
theorem EJ {p:Int × Nat} (hp:p.2≤GQ) (hq:q.2≤GQ):gv (FX p.1 p.2 q.1 q.2)=max (gv p) (gv q):=by
 rw [AoW hp hq]
 split <;> omega
theorem Uo {p:Int × Nat} (hp:p.2≤GQ) (hn:n≤65536):gv (Af p.1 p.2 (n:Int))=gv p*2 ^ n:=by
 unfold Af
 rw [if_neg (by omega),ZQ hp,show (max (-65536) (min ((n:Nat):Int) 65536)).toNat=n by omega]
 exact jd ..
theorem Up {p:Int × Nat} (hp:p.2+n≤GQ) (hn:n≤65536):gv (Af p.1 p.2 (-(n:Int)))*2 ^ n=gv p:=by
 unfold Af
 by_cases h0:n=0
 ·subst h0
  rw [if_neg (by omega),ZQ (by omega)]
  show p.1*2 ^ (max (-65536) (min (-((0:Nat):Int)) 65536)).toNat*2 ^ (GQ - p.2)*2 ^ 0=gv p
  rw [show (max (-65536) (min (-((0:Nat):Int)) 65536)).toNat=0 by omega,Int.pow_zero,Int.mul_one,Int.mul_one]
  rfl
 ·rw [if_pos (by omega),ZQ (by omega),show (-(max (-65536) (min (-(n:Int)) 65536))).toNat=n by omega,am,←ak]
  unfold gv
  congr 2
  omega
theorem Py (n:Int):gv (n,0)=n*2 ^ GQ:=rfl
theorem Sq {p:Int × Nat} (hp:p.2≤GQ) (hd:den≤GQ):gv (Bo p.1 p.2 den)≤gv p∧gv p<gv (Bo p.1 p.2 den)+2 ^ (GQ - den)∧∃ k:Int,gv (Bo p.1 p.2 den)=k*2 ^ (GQ - den):=by
 unfold Bo
 by_cases h:p.2≤den
 ·rw [if_pos h]
  show gv p≤gv p∧gv p<gv p+2 ^ (GQ - den)∧∃ k:Int,gv p=k*2 ^ (GQ - den)
  refine ⟨ci _,by have:=Bf (GQ - den);omega,p.1*2 ^ (den - p.2),?_⟩
  unfold gv
  rw [am,←ak]
  congr 2
  omega
 ·rw [if_neg h,ZQ hd]
  have e:gv p=p.1*2 ^ (GQ - p.2):=rfl
  have hk:(2:Int) ^ (GQ - den)=2 ^ (p.2 - den)*2 ^ (GQ - p.2):=by rw [←ak];congr 1;omega
  have h1:=Int.mul_ediv_add_emod p.1 (2 ^ (p.2 - den))
  have h2:=Int.emod_nonneg p.1 (AcN (p.2 - den))
  have h3:=Int.emod_lt_of_pos p.1 (Bf (p.2 - den))
  have e2:p.1 / 2 ^ (p.2 - den)*2 ^ (GQ - den)=p.1 / 2 ^ (p.2 - den)*2 ^ (p.2 - den)*2 ^ (GQ - p.2):=by rw [hk,am]
  refine ⟨?_,?_,_,rfl⟩
  ·rw [e2,e]
   refine eh ?_ (bg (Bf _))
   rw [du];omega
  ·rw [e2,e,hk,←Int.add_mul]
   refine kg ?_ (Bf _)
   rw [du (p.1 / _)];omega
abbrev Pq:=Int × Nat
abbrev DP (p q:Pq):Pq:=CR p.1 p.2 q.1 q.2
abbrev Em (p:Pq):Pq:=(-p.1,p.2)
abbrev GF (p:Pq):Pq:=(((p.1.natAbs:Nat):Int),p.2)
abbrev CG (p q:Pq):Pq:=Pk p.1 p.2 q.1 q.2
abbrev Qk (p q:Pq):Pq:=GW p.1 p.2 q.1 q.2
abbrev GG (p q:Pq):Pq:=FX p.1 p.2 q.1 q.2
abbrev Gf (p q:Pq):Int:=Bm p.1 p.2 q.1 q.2
abbrev GN (p:Pq) (n:Int):Pq:=Af p.1 p.2 n
abbrev QW (p:Pq) (n:Nat):Pq:=Bo p.1 p.2 n
abbrev ZR (p:Pq) (n:Nat):Pq:=Em (QW (Em p) n)
abbrev Iq:=Pq × Pq
def dIw (t:Bool) (a:Iq):List D:=dDy t a.1.1 a.1.2++dDy t a.2.1 a.2.2
def aIw (t:Bool) (a:Iq):A:=.agg (dIw t a)
structure IwS (a:Iq) (n d:Nat):Prop where
 s1:Sm a.1 n d
 s2:Sm a.2 n d
 le:gv a.1≤gv a.2
theorem IwS.more {a:Iq} {d n' d':Nat} (h:IwS a n d) (h1:n≤n') (h2:d≤d'):IwS a n' d':=⟨h.s1.more h1 h2,h.s2.more h1 h2,h.le⟩
def Hy (a:Iq) (x:Pq):Iq:=(Qk a.1 x,GG a.2 x)
def CI:List Pq→Iq
 | []=>((0,0),(0,0))
 | p::l=>l.foldl Hy (p,p)
def ZS (a:Iq):Iq:=(Em a.2,Em a.1)
def Aav (a b:Iq):Iq:=(DP a.1 b.1,DP a.2 b.2)
def Agq (a b:Iq):Iq:=Aav a (ZS b)
def AeS (a b:Iq):Iq:=CI [CG a.1 b.1,CG a.1 b.2,CG a.2 b.1,CG a.2 b.2]
def IY (a:Iq) (f:Pq):Iq:=AeS a (f,f)
def Aaw (a b:Iq):Iq:=(Qk a.1 b.1,Qk a.2 b.2)
def Aax (a b:Iq):Iq:=(GG a.1 b.1,GG a.2 b.2)
def Gg (a b:Iq):Iq:=CI [a.1,a.2,b.1,b.2]
def QX (a:Iq):Iq:=if a.1.1<0∧0<a.2.1 then ((0,0),(CI [GF a.1,GF a.2]).2) else CI [GF a.1,GF a.2]
def Qo (a:Iq) (v u:Pq):Iq:=Aaw (Aax a (v,v)) (u,u)
def GO (a:Iq) (den:Nat):Iq:=(QW a.1 den,ZR a.2 den)
def iIn (a b:Iq):Bool:=decide (Gf b.1 a.1≤0) && decide (Gf a.2 b.2≤0)
def Fu (a:Iq):Pq:=(QX a).2
theorem Sm.le {p:Pq} {d:Nat} (h:Sm p n d):p.2≤GQ:=h.ok.le
section
variable {a b:Iq} {n d:Nat}
theorem EK {p q:Pq} (hp:Sm p n d) (hq:Sm q n d):gv (CI [p,q]).1=min (gv p) (gv q)∧gv (CI [p,q]).2=max (gv p) (gv q)∧IwS (CI [p,q]) n d:=by
 have e1:gv (Qk p q)=min (gv p) (gv q):=GM hp.le hq.le
 have e2:gv (GG p q)=max (gv p) (gv q):=EJ hp.le hq.le
 refine ⟨e1,e2,Sm.min hp hq,Sm.max hp hq,?_⟩
 show gv (Qk p q)≤gv (GG p q)
 omega
theorem Gh {p q r s:Pq} (hp:Sm p n d) (hq:Sm q n d) (hr:Sm r n d) (hs:Sm s n d):gv (CI [p,q,r,s]).1=min (min (min (gv p) (gv q)) (gv r)) (gv s)∧gv (CI [p,q,r,s]).2=max (max (max (gv p) (gv q)) (gv r)) (gv s)∧IwS (CI [p,q,r,s]) n d:=by
 have m1:Sm (Qk p q) n d:=Sm.min hp hq
 have m2:Sm (Qk (Qk p q) r) n d:=Sm.min m1 hr
 have x1:Sm (GG p q) n d:=Sm.max hp hq
 have x2:Sm (GG (GG p q) r) n d:=Sm.max x1 hr
 have e1:gv (Qk (Qk (Qk p q) r) s)=min (min (min (gv p) (gv q)) (gv r)) (gv s):=by rw [GM m2.le hs.le,GM m1.le hr.le,GM hp.le hq.le]
 have e2:gv (GG (GG (GG p q) r) s)=max (max (max (gv p) (gv q)) (gv r)) (gv s):=by rw [EJ x2.le hs.le,EJ x1.le hr.le,EJ hp.le hq.le]
 refine ⟨e1,e2,Sm.min m2 hs,Sm.max x2 hs,?_⟩
 show gv (Qk (Qk (Qk p q) r) s)≤gv (GG (GG (GG p q) r) s)
 omega
theorem IwS.neg (h:IwS a n d):IwS (ZS a) n d:=⟨h.s2.neg,h.s1.neg,by show gv (Em a.2)≤gv (Em a.1);rw [El,El];have:=h.le;omega⟩
theorem IwS.add (h:IwS a n d) (k:IwS b n d) (hd:d≤65536):IwS (Aav a b) (n+d+1) d:=⟨Sm.sum h.s1 k.s1 hd,Sm.sum h.s2 k.s2 hd,by
 show gv (DP a.1 b.1)≤gv (DP a.2 b.2)
 rw [Hw h.s1.le k.s1.le,Hw h.s2.le k.s2.le]
 have:=h.le;have:=k.le;omega⟩
theorem IwS.sub (h:IwS a n d) (k:IwS b n d) (hd:d≤65536):IwS (Agq a b) (n+d+1) d:=h.add k.neg hd
theorem IwS.min (h:IwS a n d) (k:IwS b n d):IwS (Aaw a b) n d:=⟨Sm.min h.s1 k.s1,Sm.min h.s2 k.s2,by
 show gv (Qk a.1 b.1)≤gv (Qk a.2 b.2)
 rw [GM h.s1.le k.s1.le,GM h.s2.le k.s2.le]
 have:=h.le;have:=k.le;omega⟩
theorem IwS.max (h:IwS a n d) (k:IwS b n d):IwS (Aax a b) n d:=⟨Sm.max h.s1 k.s1,Sm.max h.s2 k.s2,by
 show gv (GG a.1 b.1)≤gv (GG a.2 b.2)
 rw [EJ h.s1.le k.s1.le,EJ h.s2.le k.s2.le]
 have:=h.le;have:=k.le;omega⟩
theorem IwS.pt {p:Pq} (h:Sm p n d):IwS (p,p) n d:=⟨h,h,ci _⟩
theorem IwS.mul (h:IwS a n d) (k:IwS b n d) (hd:d≤30000):IwS (AeS a b) (n+n) (d+d):=(Gh (Sm.mul h.s1 k.s1 hd) (Sm.mul h.s1 k.s2 hd) (Sm.mul h.s2 k.s1 hd) (Sm.mul h.s2 k.s2 hd)).2.2
theorem IwS.hull (h:IwS a n d) (k:IwS b n d):IwS (Gg a b) n d:=(Gh h.s1 h.s2 k.s1 k.s2).2.2
theorem IwS.clip {v u:Pq} (h:IwS a n d) (hv:Sm v n d) (hu:Sm u n d):IwS (Qo a v u) n d:=(h.max (.pt hv)).min (.pt hu)
theorem XU {p:Pq}:p.1<0 ↔ gv p<0:=by
 unfold gv
 exact ⟨fun h=>kz h (Bf _),fun h=>Int.not_le.1 fun hc=>by have:=ia hc (bg (Bf (GQ - p.2)));omega⟩
theorem XV {p:Pq}:0<p.1 ↔ 0<gv p:=by
 unfold gv
 exact ⟨fun h=>Int.mul_pos h (Bf _),fun h=>Int.not_le.1 fun hc=>by have:=lh hc (bg (Bf (GQ - p.2)));omega⟩
theorem IwS.abs (h:IwS a n d):IwS (QX a) n d:=by
 obtain ⟨h1,h2,h3⟩:=EK h.s1.abs h.s2.abs
 unfold QX
 split
 ·refine ⟨Sm.zero n d,h3.s2,?_⟩
  show gv (0,0)≤gv (CI [GF a.1,GF a.2]).2
  rw [GE,h2,Pw,Pw]
  omega
 ·exact h3
theorem Wn (h:IwS a n d):gv (QX a).1=(if gv a.1<0∧0<gv a.2 then 0 else min ((gv a.1).natAbs:Int) (gv a.2).natAbs)∧gv (QX a).2=max ((gv a.1).natAbs:Int) (gv a.2).natAbs:=by
 obtain ⟨h1,h2,h3⟩:=EK h.s1.abs h.s2.abs
 rw [Pw,Pw] at h1 h2
 unfold QX
 by_cases hc:a.1.1<0∧0<a.2.1
 ·rw [if_pos hc,if_pos ⟨XU.1 hc.1,XV.1 hc.2⟩]
  exact ⟨GE,h2⟩
 ·rw [if_neg hc,if_neg (fun h=>hc ⟨XU.2 h.1,XV.2 h.2⟩)]
  exact ⟨h1,h2⟩
theorem Mq (h:IwS a n d) (k:IwS b n d):iIn a b=decide (gv b.1≤gv a.1∧gv a.2≤gv b.2):=by
 unfold iIn
 rw [ji,ai,decide_eq_true_eq,decide_eq_true_eq,decide_eq_true_eq,Hx k.s1.le h.s1.le,Hx h.s2.le k.s2.le]
end
theorem Eh (a:Iq):∀ u∈dIw false a,DY u:=fun u hu=>by
 rcases List.mem_append.1 hu with h|h <;> exact Nj _ _ u h
theorem rvJ {t:Tmp} {k:Nat} {a:Iq} (hk:TyK P ty true k) (hi:6=k) (hF:F t=.one (.ref id 0 none):=by with_unfolding_all exact rfl) (hH:H[id]?=some (.box ty' ((dIw false a).map C.d)):=by with_unfolding_all exact rfl):RV P F H (.cell t ty) (aIw false a):=by
 obtain ⟨⟨dd,hu,hd⟩,hz⟩:=hk
 refine .cellA hF hH hu hd (by rw [hz,←hi];rfl) (Ba.map_l.2 ⟨rfl,fun j x y hx hy=>?_⟩)
 rw [hx] at hy
 cases hy
 exact .d fun _=>Eh a x (gM hx)
theorem AcQ:dIw false ((0,0),(0,0))=[.val (.bool false),.row false 1 0 [],.val (.int .i64 0),.val (.bool false),.row false 1 0 [],.val (.int .i64 0)]:=by
 have e:dDy false 0 0=[.val (.bool false),.row false 1 0 [],.val (.int .i64 0)]:=A.agg.inj Ht
 show dDy false 0 0++dDy false 0 0=_
 rw [e]
 rfl
structure StOk (bs:List Bk) (st:List (Int × Nat)):Prop where
 len:st.length=(AX bs).length
 sm:∀ p∈st,Sm p LB LB
section
variable {ps:List Prt} {bs:List Bk} {os:List Int} {st:List (Int × Nat)} {ins:List Int}
theorem AoX (h:i∈AX bs):i<bs.length∧Dp bs i=2:=by
 obtain ⟨k,hk⟩:=List.mem_iff_getElem?.1 h
 exact Hv hk
end
def ArL (bs:List Bk) (i:Nat):Int:=(bs[i]?.getD bk0).vn
def ArM (bs:List Bk) (i:Nat):Int:=(bs[i]?.getD bk0).ve
def BB (bs:List Bk):List (Int × Nat):=(AX bs).map fun i=>Af (ArL bs i) 0 (ArM bs i)
theorem Iw (he:AY ps bs os=0):StOk bs (BB bs):=⟨by unfold BB;rw [af],fun p hp=>by
 obtain ⟨i,hi,rfl⟩:=List.mem_map.1 hp
 obtain ⟨h1,h2⟩:=AoX hi
 obtain ⟨y,hy⟩:∃ y,bs[i]?=some y:=⟨_,gE h1⟩
 rw [Hu hy] at h2
 obtain ⟨s1,s2,s3,s4⟩:=Ps he hy (by unfold Pd;rw [h2];rfl)
 unfold ArL ArM
 rw [hy]
 exact (Sm.shift (n:=32) (by simp only [bf];omega) (by simp only [bf];omega) (by simp only [bf];omega)).more (by decide) (by decide)⟩
def DU (p:Int × Nat):Rv:=⟨decide (p.1<0),Ac p.1.natAbs,p.2⟩
theorem AoY (p:Int × Nat):(DU p).rw.x=p.1:=by
 show sg (decide (p.1<0)) (AH (Ac p.1.natAbs))=p.1
 rw [Ao]
 unfold sg
 split <;> rename_i h
 ·have:=of_decide_eq_true h;omega
 ·have:¬ p.1<0:=by simpa using h
  omega
theorem GP (p:Int × Nat):rvP (DU p)=p:=by
 unfold rvP
 rw [AoY]
 show (p.1,((p.2:Nat):Int).toNat)=p
 rw [ap]
theorem Fo (t:Bool) (p:Int × Nat):dRv t (DU p)=dDy t p.1 p.2:=by
 unfold dRv dDy wds
 rw [VV]
 rfl
theorem Wo {p:Int × Nat} (h:Nf p.1 p.2):vdB (DU p).rw=true:=by
 refine decide_eq_true ?_
 by_cases h0:(Ac p.1.natAbs).length=0
 ·refine (Agb (r:=(DU p).rw) h0).2 ?_
  have hz:p.1.natAbs=0:=by
   have:=Ao p.1.natAbs
   rw [bz h0] at this
   exact this.symm
  have hd:p.2=0:=bu fun hne=>by have:=h.2 hne;omega
  exact ⟨decide_eq_false (by omega),by show ((p.2:Nat):Int)=0;omega⟩
 ·refine (AcF (r:=(DU p).rw) h0).2 ⟨?_,by show (0:Int)≤(p.2:Nat);omega,by have:=h.1;show ((p.2:Nat):Int)≤65536;omega,?_⟩
  ·have hne:p.1.natAbs≠0:=fun hz=>h0 (by rw [hz,AK];rfl)
   obtain ⟨q,L,hL,hq,q0,_,_⟩:=QU hne
   show _≠_
   simp only [DU,Rv.rw]
   first|(rw [hL];simpa [hq] using q0)|simp_all
  ·by_cases hd:p.2=0
   ·left;show ((p.2:Nat):Int)=0;omega
   ·right
    have:=h.2 hd
    have hb:=Ig (AE p.1.natAbs) 0
    rw [Ao] at hb
    simp only [Nat.pow_zero,Nat.div_one,Nat.zero_div,Nat.zero_mod] at hb
    show (Ac p.1.natAbs)[0]?.getD 0 % 2=1
    omega
theorem Wp (l:List (Int × Nat)):AoU (l.map DU)=.row false 3 l.length (An dyP l):=by
 unfold AoU An
 rw [af,dp]
 congr 2
 exact fc fun p _=>Fo false p
theorem Fp (bs:List Bk):(AX bs).length≤bs.length:=by unfold AX;exact lT (List.length_filter_le _ _) (gz fb)
theorem XW {k:Nat} (hi:(AX bs)[k]?=some i) (hy:bs[i]?=some y):(BB bs)[k]?=some (Af y.vn 0 y.ve):=by
 unfold BB ArL ArM
 rw [ag,hi,dc,hy]
 rfl
theorem Mr {l:List (Int × Nat)} {k:Nat} {p:Int × Nat} (h:l[k]?=some p):(An dyP (l.take k)).map C.d++(dDy false p.1 p.2).map C.d=(An dyP (l.take (k+1))).map C.d∧(l.take k).length+1=(l.take (k+1)).length∧(l.take k).length≤k:=by
 refine ⟨?_,?_,by rw [em];omega⟩
 ·rw [bh,h,fp,OW,gc];rfl
 ·rw [bh,h,ao];rfl
theorem AhX (h:p:=by
 refine ⟨_,_,Be 2,_,?_,k+1,by omega,rfl,rfl,rfl⟩
 ·omega):p:=h
theorem AcR (t:Bool) {ps:List Prt} {bs:List Bk} {os:List Int} (hl:Dx ps bs os):CV prog Ah 25 [aDg t ps bs os] [AmK (okQ (AY ps bs os) (BB bs)),aE (AY ps bs os)]:=by
 refine cvz func25 ntmps25 ?_
 have DL:=(Hr t hl (ps:=ps) (bs:=bs) (os:=os)).cv
 have hnl:=BP (AX bs)
 by_cases h0:AY ps bs os=0
 case neg =>
  rw [if_neg h0] at DL
  rw [NN h0]
  repeat' (with_reducible first|refine qq ?_|(refine Tx 0 ?_;refine gN xBo <| gO xA <| gO xA ?_)|(refine Tx 1 ?_;refine gO xL <| gO (xCl func36 (DL)) <| gO xMt <| gO xEx <| gO xEx <| gO xA <| gO xA ?_)|(refine Tx 2 ?_;refine gO xM <| gO (xNE Am) ?_)|(refine Tx 3 ?_;refine gO xM <| gO xA <| gO xA ?_))
  exact Au rfl (.cons_ (.tmp (.one (GL rfl rfl))) (.cons_ (AbN rfl rfl) .nil_))
 rw [if_pos h0,h0] at DL
 rw [h0,Un rfl]
 repeat' (with_reducible first|refine qq ?_|(refine Tx 0 ?_;refine gN xBo <| gO xA <| gO xA ?_)|(refine Tx 1 ?_;refine gO xL <| gO (xCl func36 (DL)) <| gO xMt <| gO xEx <| gO xEx <| gO xA <| gO xA ?_)|(refine Tx 2 ?_;refine gO xM <| gO (xNE Am) ?_)|(refine Tx 4 ?_;refine gO xA ?_)|(refine Tx 5 ?_;refine gO xM <| gO xN <| gO xM ?_))
 refine AJ (Fh 6 43 3 rfl) ?_
 have hl2:=hl.l2
 have hdb:=Fp bs
 have hsl:(BB bs).length=(AX bs).length:=(Iw h0).len
 refine AJ (Be 2) (Al (fun n Fr H=>∃ k:Nat,k≤(AX bs).length∧n=(AX bs).length - k∧Fr=ofL [(1,vr 0),(6,vo 1 (((BB bs).take k).length)),(17,vd (AU false (BU (AX bs)))),(18,vi ((BU (AX bs)).length)),(19,vi ((k:Nat)))]∧H=[.box 26 [.d (CY t ps),.d (Cw t bs),.d (AU t os)],.row 43 3 ((BB bs).take (k)).length ((An dyP ((BB bs).take (k))).map C.d)]) (n0:=(AX bs).length) ⟨0,ad _,rfl,rfl,rfl⟩ ?_)
 rintro n Fr H ⟨k,hk,rfl,rfl,rfl⟩
 by_cases hlt:k<(AX bs).length
 case pos =>
  obtain ⟨i,hi⟩:∃ i,(AX bs)[k]?=some i:=⟨_,gE hlt⟩
  have hid:=Hv hi
  have hil:=hid.1
  obtain ⟨y,hy⟩:∃ y,bs[i]?=some y:=⟨_,gE hil⟩
  have hk2:=hid.2
  rw [Hu hy] at hk2
  have hsc:=Ps h0 hy (by unfold Pd;rw [hk2];rfl)
  have NU:=ZP y.vn y.ve hsc
  obtain ⟨hap,hap2,hoL⟩:=Mr (XW hi hy)
  repeat' (with_reducible first|refine qq ?_|(refine Tx 6 ?_;refine gO xLt ?_)|(refine Tx 7 ?_;refine gO (xIr Ae (Ay (LH hi))) <| gO xD <| gO xA ?_)|(refine Tx 8 ?_;refine gO xM <| gO xF <| gO xD <| gO xM <| gO (xIr Ak (Dq hy)) <| gO xF <| gO xL <| gO (xCl func67 (NU)) <| gN (by exact BH rfl Ag Aj rfl rfl (by decide) (by decide)) <| gT (by exact Mj rfl rfl rfl rfl rfl rfl Ag Aj (by omega) (by decide) (by decide) rfl hap hap2) <| gO xA ?_)|(refine Tx 9 ?_;refine gO xAd <| gO xM ?_))
  exact AhX
 obtain rfl:k=(AX bs).length:=by omega
 clear hlt hk
 rw [←hsl,aq]
 unfold AmK
 repeat' (with_reducible first|refine qq ?_|(refine Tx 6 ?_;refine gO xLt ?_)|(refine Tx 10 ?_;refine gO xM <| gO xA <| gO xA ?_))
 exact Au rfl (.cons_ (.tmp (.one (AcK rfl rfl rfl))) (.cons_ (Hc rfl rfl) .nil_))
theorem AlH (k:p') (h:Hd9 p'→p:=by with_reducible first|(intro Z9;refine qq ?_;exact Z9.o)|(intro Z9;refine Tx 0 ?_;refine gO xA ?_;exact Z9.o)|(intro Z9;refine Tx 1 ?_;refine gO xM <| gO xM <| gO xGe <| gO xM ?_;(first|iterate 3 refine Jd ?_|(refine Jy xM1 ?_;refine Jy xM1 ?_;refine Jy xLe ?_));refine gO xPk <| gO xA ?_;exact Z9.o)|fail):p:=h ⟨k⟩
theorem Fc (n lo hi:Int):CV prog Ah 41 [aI n,aI lo,aI hi] [aB (Lx n lo hi)]:=by
 refine cvz func41 ntmps41 ?_
 unfold Lx
 by_cases c1:lo≤n
 case neg =>
  repeat' (with_reducible first|refine AlH ?_)
  exact Au rfl (.cons_ (Db rfl ((decide_eq_false (by omega)).symm)) .nil_)
 by_cases c2:n≤hi
 case neg =>
  repeat' (with_reducible first|refine AlH ?_)
  exact Au rfl (.cons_ (Db rfl ((decide_eq_false (by omega)).symm)) .nil_)
 repeat' (with_reducible first|refine AlH ?_)
 exact Au rfl (.cons_ (Db rfl ((decide_eq_true (by omega)).symm)) .nil_)
theorem AoZ (k:p') (h:Hd9 p'→p:=by with_reducible first|(intro Z9;refine qq ?_;exact Z9.o)|(intro Z9;refine Tx 0 ?_;refine gO xA ?_;exact Z9.o)|(intro Z9;refine Tx 1 ?_;refine gO xM ?_;exact Z9.o)|(intro Z9;refine Tx 2 ?_;refine gO xEq <| gO xA ?_;exact Z9.o)|(intro Z9;refine Tx 3 ?_;refine gO xA ?_;exact Z9.o)|(intro Z9;refine Tx 4 ?_;refine gO xEq <| gO xA ?_;exact Z9.o)|(intro Z9;refine Tx 5 ?_;refine gO xEq <| gO xA ?_;exact Z9.o)|(intro Z9;refine Tx 6 ?_;refine gO xEq <| gO xA ?_;exact Z9.o)|(intro Z9;refine Tx 7 ?_;refine gO xEq <| gO xA ?_;exact Z9.o)|(intro Z9;refine Tx 8 ?_;refine gO xEq <| gO xA ?_;exact Z9.o)|(intro Z9;refine Tx 9 ?_;refine gO xEq <| gO xA ?_;exact Z9.o)|(intro Z9;refine Tx 10 ?_;refine gO xA ?_;exact Z9.o)|(intro Z9;refine Tx 11 ?_;refine gO xEq <| gO xA ?_;exact Z9.o)|(intro Z9;refine Tx 12 ?_;refine gO xEq <| gO xA ?_;exact Z9.o)|(intro Z9;refine Tx 13 ?_;refine gO xEq <| gO xA ?_;exact Z9.o)|(intro Z9;refine Tx 14 ?_;refine gO xEq <| gO xA ?_;exact Z9.o)|(intro Z9;refine Tx 15 ?_;refine gO xEq <| gO xA ?_;exact Z9.o)|(intro Z9;refine Tx 16 ?_;refine gO xA ?_;exact Z9.o)|(intro Z9;refine Tx 17 ?_;refine gO xA ?_;exact Z9.o)|fail):p:=h ⟨k⟩
theorem QY (h:p:=by
 exact Au rfl (.cons_ (Lw rfl rfl) .nil_)):p:=h
theorem AcS (k:Int):CV prog Ah 93 [aI k] [aI (Bw k)]:=by
 refine cvz func93 ntmps93 ?_
 have h:k=1∨k=0∨k=2∨k=5∨k=10∨k=6∨k=11∨k=3∨k=4∨k=7∨k=8∨k=9∨(k≠1∧k≠0∧k≠2∧k≠5∧k≠10∧k≠6∧k≠11∧k≠3∧k≠4∧k≠7∧k≠8∧k≠9):=by omega
 rcases h with rfl|rfl|rfl|rfl|rfl|rfl|rfl|rfl|rfl|rfl|rfl|rfl|h
 rotate_left 12
 ·have e:Bw k = -1:=by unfold Bw;rw [if_neg (by omega),if_neg (by omega),if_neg (by omega)]
  rw [e]
  repeat' (with_reducible first|refine AoZ ?_)
  exact QY
 all_goals repeat' (with_reducible first|refine AoZ ?_)
 all_goals exact Au rfl (.cons_ (Lw rfl (by decide)) .nil_)
theorem Uq (h:p:=by first|exact xNt|exact xNg):p:=h
theorem Wq (k:p') (h:Hd9 p'→p:=by with_reducible first|(intro Z9;refine qq ?_;exact Z9.o)|(intro Z9;refine Tx 0 ?_;refine gN xBo <| gO xA ?_;exact Z9.o)|(intro Z9;refine Tx 1 ?_;refine gO xM <| gO Uq ?_;exact Z9.o)|fail):p:=h ⟨k⟩
theorem Apa (h:p:=by first|exact xCl func41 (W1)|exact xCl func41 (W2)):p:=h
theorem AcT (k:p') (h:Hd9 p'→p:=by with_reducible first|(intro Z9;refine Tx 5 ?_;refine gO xF <| gO xD <| gO Apa <| gO Uq <| gO xM ?_;(first|iterate 4 refine Jd ?_|(refine Jy (xFa Fa Az) ?_;refine Jy (xLd Az) ?_;refine Jy Apa ?_;refine Jy Uq ?_));refine gO xPk ?_;exact Z9.o)|fail):p:=h ⟨k⟩
theorem Ds (h:p:=by
 exact Au rfl (.cons_ (Lw rfl (rfl)) .nil_)):p:=h
theorem QZ (n e:Int) (used:Bool):CV prog Ah 94 [.agg [dI n,dI e],aB used] [aI (CD n e used)]:=by
 refine cvz func94 ntmps94 ?_
 cases used
 case false =>
  unfold CD
  rw [if_neg (by decide)]
  by_cases h1:n=0∧e=0
  case pos =>
   rw [if_pos h1]
   obtain ⟨rfl,rfl⟩:=h1
   repeat' (with_reducible first|refine Wq ?_|(refine Tx 2 ?_;refine gO xL <| gO (by exact AF rfl Hj rfl rfl) <| gO (by first|exact RT rfl rfl rfl (rfl)|exact xNe) ?_)|(refine Tx 4 ?_;refine gO xA ?_))
   exact Ds
  case neg =>
   rw [if_neg h1]
   repeat' (with_reducible first|refine Wq ?_|(refine Tx 2 ?_;refine gO xL <| gO (by exact AF rfl Hj rfl rfl) <| gO (by first|exact RT rfl rfl rfl (Aoy h1)|exact xNe) ?_)|(refine Tx 3 ?_;refine gO xA ?_))
   exact Ds
 case true =>
  unfold CD
  rw [if_pos rfl]
  have W1:=Fc n (-2147483647) 2147483647
  have W2:=Fc e (-62) 30
  unfold Lx at W1 W2
  by_cases c1 : -2147483648<n
  case neg =>
   rw [if_neg (fun h:DN n e=>c1 h.1)]
   rw [decide_eq_false (by omega)] at W1
   repeat' (with_reducible first|refine Wq ?_|refine AcT ?_|(refine Tx 6 ?_;refine gO xA ?_))
   exact Ds
  by_cases c2:n<2147483648
  case neg =>
   rw [if_neg (fun h:DN n e=>c2 h.2.1)]
   rw [decide_eq_false (by omega)] at W1
   repeat' (with_reducible first|refine Wq ?_|refine AcT ?_|(refine Tx 6 ?_;refine gO xA ?_))
   exact Ds
  by_cases c3 : -62≤e
  case neg =>
   rw [if_neg (fun h:DN n e=>c3 h.2.2.1)]
   rw [decide_eq_false (by omega)] at W2
   rw [decide_eq_true (by omega)] at W1
   repeat' (with_reducible first|refine Wq ?_|refine AcT ?_|(refine Tx 6 ?_;refine gO xA ?_))
   exact Ds
  by_cases c4:e≤30
  case neg =>
   rw [if_neg (fun h:DN n e=>c4 h.2.2.2)]
   rw [decide_eq_false (by omega)] at W2
   rw [decide_eq_true (by omega)] at W1
   repeat' (with_reducible first|refine Wq ?_|refine AcT ?_|(refine Tx 6 ?_;refine gO xA ?_))
   exact Ds
  rw [if_pos (show DN n e from ⟨c1,c2,c3,c4⟩)]
  rw [decide_eq_true (by omega)] at W1 W2
  repeat' (with_reducible first|refine Wq ?_|refine AcT ?_|(refine Tx 7 ?_;refine gO xA ?_))
  exact Ds
theorem AcU (k:p') (h:Hd9 p'→p:=by with_reducible first|(intro Z9;refine Tx 1 ?_;refine gO xF <| gO xD <| gO xF <| gO xD <| gO xGt ?_;exact Z9.o)|fail):p:=h ⟨k⟩
theorem Ur (k:p') (h:Hd9 p'→p:=by with_reducible first|(intro Z9;refine Tx 4 ?_;refine gO xF <| gO xD <| gO xF <| gO xD <| gO xGt ?_;exact Z9.o)|fail):p:=h ⟨k⟩
theorem AlI (k:p') (h:Hd9 p'→p:=by with_reducible first|(intro Z9;refine Tx 7 ?_;refine gO xF <| gO xD <| gO xF <| gO xD <| gO xLt <| gO xA ?_;exact Z9.o)|fail):p:=h ⟨k⟩
theorem Apb (k:p') (h:Hd9 p'→p:=by with_reducible first|(intro Z9;refine Tx 9 ?_;refine gO xF <| gO xD <| gO xF <| gO xD <| gO xGt <| gO xA ?_;exact Z9.o)|fail):p:=h ⟨k⟩
theorem Agr (k:p') (h:Hd9 p'→p:=by with_reducible first|(intro Z9;refine Tx 5 ?_;refine gO xF <| gO xD <| gO xEq <| gO xM ?_;(first|iterate 3 refine Jd ?_|(refine Jy (xFa Es Az) ?_;refine Jy (xLd Az) ?_;refine Jy xGe ?_));refine gO xPk <| gO xM ?_;(first|iterate 3 refine Jd ?_|(refine Jy (xFa Es Az) ?_;refine Jy (xLd Az) ?_;refine Jy xLe ?_));refine gO xPk ?_;exact Z9.o)|fail):p:=h ⟨k⟩
theorem Ags (k:p') (h:Hd9 p'→p:=by with_reducible first|(intro Z9;refine Tx 2 ?_;refine gO xF <| gO xD <| gO xEq <| gO xM ?_;(first|iterate 3 refine Jd ?_|(refine Jy (xFa Es Az) ?_;refine Jy (xLd Az) ?_;refine Jy xGe ?_));refine gO xPk <| gO xM ?_;(first|iterate 3 refine Jd ?_|(refine Jy (xFa Es Az) ?_;refine Jy (xLd Az) ?_;refine Jy xLe ?_));refine gO xPk ?_;exact Z9.o)|fail):p:=h ⟨k⟩
theorem Pz (h:p:=by
 by_cases q1:n<n2
 case pos =>
  rw [if_pos q1]
  repeat' (with_reducible first|refine qq ?_|refine AlI ?_|(refine Tx 8 ?_;refine gO xA ?_))
  exact Au rfl (.cons_ (Lw rfl (rfl)) .nil_)
 rw [if_neg q1]
 by_cases q2:n2<n
 case pos =>
  rw [if_pos q2]
  repeat' (with_reducible first|refine qq ?_|refine AlI ?_|refine Apb ?_|(refine Tx 10 ?_;refine gO xA ?_))
  exact Au rfl (.cons_ (Lw rfl (rfl)) .nil_)
 rw [if_neg q2]
 repeat' (with_reducible first|refine qq ?_|refine AlI ?_|refine Apb ?_|(refine Tx 11 ?_;refine gO xA ?_))
 exact Au rfl (.cons_ (Lw rfl (rfl)) .nil_)):p:=h
theorem Agt (h:p:=by first|exact xS1 Az|exact xSk Az):p:=h
theorem AlJ (an ae bn be:Int) (h1:DN an ae) (h2:DN bn be):CV prog Ah 95 [.agg [dI an,dI ae],.agg [dI bn,dI be]] [aI (NJ an ae bn be)]:=by
 refine cvz func95 ntmps95 ?_
 obtain ⟨a0,a1,a2,a3⟩:=h1
 obtain ⟨b0,b1,b2,b3⟩:=h2
 repeat' (with_reducible first|refine qq ?_|(refine Tx 0 ?_;refine gN xBo <| gN xBo <| gO xA ?_))
 refine AJ (Be 2) (Al (fun m Fr H=>∃ n e:Int,RM n e an ae be∧m=(e+62).toNat∧Fr=ofL [(2,vr 0),(3,vr 1)]∧H=[.box 63 [.d (.val (.int .i64 (n))),.d (.val (.int .i64 (e)))],.box 63 [.d (.val (.int .i64 (bn))),.d (.val (.int .i64 (be)))]]) (n0:=(ae+62).toNat) ⟨an,ae,⟨rfl,by omega,by omega,.inl rfl,by omega,fun _=>rfl⟩,rfl,rfl,rfl⟩ ?_)
 rintro m Fr H ⟨n,e,D1,rfl,rfl,rfl⟩
 have d1:=D1.lo
 have d2:=D1.small
 have d3:=D1.hi
 by_cases e1:be<e
 case neg =>
  have X1:e≤be∨n=0∨2147483648≤n∨n ≤ -2147483648:=.inl (by omega)
  repeat' (with_reducible first|refine qq ?_|refine AcU ?_)
  refine AJ (Be 2) (Al (fun m Fr H=>∃ n2 e2:Int,RM n2 e2 bn be e∧m=(e2+62).toNat∧Fr=ofL [(2,vr 0),(3,vr 1)]∧H=[.box 63 [.d (.val (.int .i64 (n))),.d (.val (.int .i64 (e)))],.box 63 [.d (.val (.int .i64 (n2))),.d (.val (.int .i64 (e2)))]]) (n0:=(be+62).toNat) ⟨bn,be,⟨rfl,by omega,by omega,.inl rfl,by omega,fun _=>rfl⟩,rfl,rfl,rfl⟩ ?_)
  rintro m Fr H ⟨n2,e2,D2,rfl,rfl,rfl⟩
  have f1:=D2.lo
  have f2:=D2.small
  have f3:=D2.hi
  by_cases g1:e<e2
  case neg =>
   repeat' (with_reducible first|refine qq ?_|refine Ur ?_)
   rw [Gy D1 X1 D2 (.inl (by omega)) ⟨a0,a1⟩ ⟨b0,b1⟩,Dd]
   exact Pz
  by_cases g2:n2=0
  case pos =>
   repeat' (with_reducible first|refine qq ?_|refine Ur ?_|refine Agr ?_)
   rw [Gy D1 X1 D2 (.inr (.inl g2)) ⟨a0,a1⟩ ⟨b0,b1⟩,Dd]
   exact Pz
  by_cases g3:2147483648≤n2
  case pos =>
   repeat' (with_reducible first|refine qq ?_|refine Ur ?_|refine Agr ?_)
   rw [Gy D1 X1 D2 (.inr (.inr (.inl g3))) ⟨a0,a1⟩ ⟨b0,b1⟩,Dd]
   exact Pz
  by_cases g4:n2 ≤ -2147483648
  case pos =>
   repeat' (with_reducible first|refine qq ?_|refine Ur ?_|refine Agr ?_)
   rw [Gy D1 X1 D2 (.inr (.inr (.inr g4))) ⟨a0,a1⟩ ⟨b0,b1⟩,Dd]
   exact Pz
  repeat' (with_reducible first|refine qq ?_|refine Ur ?_|refine Agr ?_|(refine Tx 6 ?_;refine gO xF <| gO xD <| gO (by exact Md rfl rfl rfl (by omega)) <| gO xF <| gO xD <| gO xSb <| gO xF <| gZ Agt <| gO xF <| gZ Agt ?_))
  refine ⟨_,_,Be 2,_,by omega,2*n2,e2 - 1,Xy D2 ⟨by omega,by omega⟩ g1 (by omega),rfl,rfl,rfl⟩
 by_cases e2:n=0
 case pos =>
  have X1:e≤be∨n=0∨2147483648≤n∨n ≤ -2147483648:=.inr (.inl e2)
  repeat' (with_reducible first|refine qq ?_|refine AcU ?_|refine Ags ?_)
  refine AJ (Be 2) (Al (fun m Fr H=>∃ n2 e2:Int,RM n2 e2 bn be e∧m=(e2+62).toNat∧Fr=ofL [(2,vr 0),(3,vr 1)]∧H=[.box 63 [.d (.val (.int .i64 (n))),.d (.val (.int .i64 (e)))],.box 63 [.d (.val (.int .i64 (n2))),.d (.val (.int .i64 (e2)))]]) (n0:=(be+62).toNat) ⟨bn,be,⟨rfl,by omega,by omega,.inl rfl,by omega,fun _=>rfl⟩,rfl,rfl,rfl⟩ ?_)
  rintro m Fr H ⟨n2,e2,D2,rfl,rfl,rfl⟩
  have f1:=D2.lo
  have f2:=D2.small
  have f3:=D2.hi
  by_cases g1:e<e2
  case neg =>
   repeat' (with_reducible first|refine qq ?_|refine Ur ?_)
   rw [Gy D1 X1 D2 (.inl (by omega)) ⟨a0,a1⟩ ⟨b0,b1⟩,Dd]
   exact Pz
  exact absurd g1 (by omega)
 by_cases e3:2147483648≤n
 case pos =>
  have X1:e≤be∨n=0∨2147483648≤n∨n ≤ -2147483648:=.inr (.inr (.inl e3))
  repeat' (with_reducible first|refine qq ?_|refine AcU ?_|refine Ags ?_)
  refine AJ (Be 2) (Al (fun m Fr H=>∃ n2 e2:Int,RM n2 e2 bn be e∧m=(e2+62).toNat∧Fr=ofL [(2,vr 0),(3,vr 1)]∧H=[.box 63 [.d (.val (.int .i64 (n))),.d (.val (.int .i64 (e)))],.box 63 [.d (.val (.int .i64 (n2))),.d (.val (.int .i64 (e2)))]]) (n0:=(be+62).toNat) ⟨bn,be,⟨rfl,by omega,by omega,.inl rfl,by omega,fun _=>rfl⟩,rfl,rfl,rfl⟩ ?_)
  rintro m Fr H ⟨n2,e2,D2,rfl,rfl,rfl⟩
  have f1:=D2.lo
  have f2:=D2.small
  have f3:=D2.hi
  by_cases g1:e<e2
  case neg =>
   repeat' (with_reducible first|refine qq ?_|refine Ur ?_)
   rw [Gy D1 X1 D2 (.inl (by omega)) ⟨a0,a1⟩ ⟨b0,b1⟩,Dd]
   exact Pz
  exact absurd g1 (by omega)
 by_cases e4:n ≤ -2147483648
 case pos =>
  have X1:e≤be∨n=0∨2147483648≤n∨n ≤ -2147483648:=.inr (.inr (.inr e4))
  repeat' (with_reducible first|refine qq ?_|refine AcU ?_|refine Ags ?_)
  refine AJ (Be 2) (Al (fun m Fr H=>∃ n2 e2:Int,RM n2 e2 bn be e∧m=(e2+62).toNat∧Fr=ofL [(2,vr 0),(3,vr 1)]∧H=[.box 63 [.d (.val (.int .i64 (n))),.d (.val (.int .i64 (e)))],.box 63 [.d (.val (.int .i64 (n2))),.d (.val (.int .i64 (e2)))]]) (n0:=(be+62).toNat) ⟨bn,be,⟨rfl,by omega,by omega,.inl rfl,by omega,fun _=>rfl⟩,rfl,rfl,rfl⟩ ?_)
  rintro m Fr H ⟨n2,e2,D2,rfl,rfl,rfl⟩
  have f1:=D2.lo
  have f2:=D2.small
  have f3:=D2.hi
  by_cases g1:e<e2
  case neg =>
   repeat' (with_reducible first|refine qq ?_|refine Ur ?_)
   rw [Gy D1 X1 D2 (.inl (by omega)) ⟨a0,a1⟩ ⟨b0,b1⟩,Dd]
   exact Pz
  exact absurd g1 (by omega)
 repeat' (with_reducible first|refine qq ?_|refine AcU ?_|refine Ags ?_|(refine Tx 3 ?_;refine gO xF <| gO xD <| gO (by exact Md rfl rfl rfl (by omega)) <| gO xF <| gO xD <| gO xSb <| gO xF <| gZ Agt <| gO xF <| gZ Agt ?_))
 refine ⟨_,_,Be 2,_,by omega,2*n,e - 1,Xy D1 ⟨by omega,by omega⟩ e1 (by omega),rfl,rfl,rfl⟩
theorem Agu (k:p') (h:Hd9 p'→p:=by with_reducible first|(intro Z9;refine Tx 0 ?_;refine gN xBo <| gN xBo <| gO xA ?_;exact Z9.o)|(intro Z9;refine Tx 1 ?_;refine gO xF <| gO xD <| gO (xCl func93 (AR)) <| gO xA ?_;exact Z9.o)|(intro Z9;refine Tx 2 ?_;refine gO xM <| gO xLt ?_;exact Z9.o)|fail):p:=h ⟨k⟩
theorem Apc (k:p') (h:Hd9 p'→p:=by with_reducible first|(intro Z9;refine Tx 6 ?_;refine gO xF <| gO xD <| gO xN <| gO xA ?_;exact Z9.o)|(intro Z9;refine Tx 7 ?_;refine gO xF <| gO xD <| gO xEq ?_;exact Z9.o)|(intro Z9;refine Tx 9 ?_;refine gO xF <| gO xD <| gO xN <| gO xM ?_;exact Z9.o)|fail):p:=h ⟨k⟩
theorem Sr (k:p') (h:Hd9 p'→p:=by with_reducible first|(intro Z9;refine Tx 10 ?_;refine gO xLt ?_;exact Z9.o)|fail):p:=h ⟨k⟩
theorem AlK (k:p') (h:Hd9 p'→p:=by with_reducible first|(intro Z9;refine Tx 11 ?_;refine gO (xIr Ae (Ay hz)) <| gO xD <| gO xA ?_;exact Z9.o)|(intro Z9;refine Tx 12 ?_;refine gO xM <| gO xM <| gO xSb <| gO (xCl func41 (WI)) <| gO Uq ?_;exact Z9.o)|fail):p:=h ⟨k⟩
theorem Apd (h:p:=by first|exact xCl func94 (SV)|exact xCl func94 (SU)):p:=h
theorem ZT (k:p') (h:Hd9 p'→p:=by with_reducible first|(intro Z9;refine Tx 15 ?_;refine gO xF <| gO xD <| gO xEq <| gO xA ?_;exact Z9.o)|(intro Z9;refine Tx 16 ?_;refine gO xF <| gO xL <| gO xM <| gO xM ?_;(first|iterate 3 refine Jd ?_|(refine Jy (xFa EB Az) ?_;refine Jy (xLd Az) ?_;refine Jy xEq ?_));refine gO xPk <| gO xM ?_;(first|iterate 3 refine Jd ?_|(refine Jy (xFa EB Az) ?_;refine Jy (xLd Az) ?_;refine Jy xEq ?_));refine gO xPk <| gO xM ?_;(first|iterate 3 refine Jd ?_|(refine Jy (xFa EB Az) ?_;refine Jy (xLd Az) ?_;refine Jy xEq ?_));refine gO xPk <| gO Apd <| gO xA ?_;exact Z9.o)|(intro Z9;refine Tx 17 ?_;refine gO xM <| gO xNe ?_;exact Z9.o)|fail):p:=h ⟨k⟩
theorem AcV (k:p') (h:Hd9 p'→p:=by with_reducible first|(intro Z9;refine Tx 19 ?_;refine gO xF <| gO xL <| gO xM <| gO Apd <| gO xA ?_;exact Z9.o)|(intro Z9;refine Tx 20 ?_;refine gO xM <| gO xNe ?_;exact Z9.o)|fail):p:=h ⟨k⟩
theorem ArN (k:p') (h:Hd9 p'→p:=by with_reducible first|(intro Z9;refine Tx 22 ?_;refine gO xM <| gO xM ?_;(first|iterate 4 refine Jd ?_|(refine Jy (xFa Ea AM) ?_;refine Jy (xLa AM) ?_;refine Jy (xFa Eb AM) ?_;refine Jy (xLa AM) ?_));refine Jd ?_;(first|refine Jd ?_|refine Jy xGt ?_);refine gO xPk ?_;exact Z9.o)|fail):p:=h ⟨k⟩
theorem Ape (k:p') (h:Hd9 p'→p:=by with_reducible first|(intro Z9;refine Tx 22 ?_;refine gO xM <| gO xM ?_;(first|iterate 6 refine Jd ?_|(refine Jy (xFa Ea AM) ?_;refine Jy (xLa AM) ?_;refine Jy (xFa Eb AM) ?_;refine Jy (xLa AM) ?_;refine Jy (xCl func95 (CM)) ?_;refine Jy xGt ?_));refine gO xPk ?_;exact Z9.o)|fail):p:=h ⟨k⟩
theorem Us (h:p:=by
 rw [h4] at SV
 by_cases h5:CD y.un y.ue false=0
 case neg =>
  rw [be5 h1 h2 hM hf hv h4 hc h5]
  repeat' (with_reducible first|refine qq ?_|refine Sr ?_|refine ZT ?_|refine AcV ?_|(refine Tx 21 ?_;refine gO xM <| gO xA ?_))
  exact Au rfl (.cons_ (Lw rfl rfl) .nil_)
 rw [h5] at SU
 rw [be7 h1 h2 hM hf hv h4 hc h5 (fun h=>by cases h.1)]
 repeat' (with_reducible first|refine qq ?_|refine Sr ?_|refine ZT ?_|refine AcV ?_|refine ArN ?_|(refine Tx 24 ?_;refine gO xA ?_))
 exact Au rfl (.cons_ (Lw rfl (rfl)) .nil_)):p:=h
theorem Ra (h:p:=by
 rw [be4 h1 h2 hM hf hv h4]
 repeat' (with_reducible first|refine qq ?_|refine Sr ?_|refine ZT ?_|(refine Tx 18 ?_;refine gO xM <| gO xA ?_))
 exact Au rfl (.cons_ (Lw rfl rfl) .nil_)):p:=h
theorem AhY (h:p:=by
 rw [decide_eq_true (by omega)] at WI
 obtain ⟨z0,z1⟩:=hb
 repeat' (with_reducible first|refine qq ?_|refine Sr ?_|refine AlK ?_|(refine Tx 14 ?_;refine gO xAd <| gO xM ?_))
 refine ⟨_,_,Gw _ 2 ?_ ?_ ?_,_,by omega,k+1,by omega,rfl,XG hz ⟨z0,z1⟩ hf,rfl,rfl⟩
 ·rfl
 ·exact mB rfl rfl
 ·exact ⟨BS rfl,BS rfl,trivial⟩):p:=h
theorem AcW (t:Bool) {ps:List Prt} {bs:List Bk} {os:List Int} (hl:Dx ps bs os) (y:Bk) (hyl:y.args.length≤1000000):CV prog Ah 42 [aDg t ps bs os,.agg (dBk t y)] [aI (Cd ps.length bs.length y)]:=by
 refine cvz func42 ntmps42 ?_
 have AR:=AcS y.kind
 have SV:=QZ y.vn y.ve (Pd y.kind)
 have SU:=QZ y.un y.ue (Lz y.kind)
 have hl1:=hl.l1
 have hl2:=hl.l2
 by_cases h1:Bw y.kind<0
 case pos =>
  rw [be1 h1]
  repeat' (with_reducible first|refine qq ?_|refine Agu ?_|(refine Tx 3 ?_;refine gO xA ?_))
  exact Ds
 by_cases h2:((y.args.length:Nat):Int)=Bw y.kind
 case neg =>
  rw [be2 h1 h2]
  repeat' (with_reducible first|refine qq ?_|refine Agu ?_|(refine Tx 4 ?_;refine gO xF <| gO xD <| gO xN <| gO xM <| gO xNe ?_)|(refine Tx 5 ?_;refine gO xA ?_))
  exact Ds
 have hA2:y.args.length≤2:=by unfold Bw at h2;(repeat' split at h2) <;> omega
 by_cases k0:y.kind=0
 case pos =>
  have hM:EE ps.length bs.length y.kind=ps.length:=if_pos k0
  repeat' (with_reducible first|refine qq ?_|refine Agu ?_|(refine Tx 4 ?_;refine gO xF <| gO xD <| gO xN <| gO xM <| gO xNe ?_)|refine Apc ?_|(refine Tx 8 ?_;refine gO xF <| gO xD <| gO xN <| gO xA ?_))
  refine AJ (Be 2) (Al (fun n Fr H=>∃ k:Nat,k≤y.args.length∧n=y.args.length - k∧Ar ((y.args.map (NK ps.length)).take k)=0∧Fr=ofL [(2,vr 0),(3,vr 1),(6,vi ps.length),(32,vd (AU t y.args)),(33,vi y.args.length),(34,vi ((k:Nat)))]∧H=[.box 26 [.d (CY t ps),.d (Cw t bs),.d (AU t os)],.box 65 [.d (.val (.int .i64 y.kind)),.d (AU t y.args),.d (.val (.int .i64 y.vn)),.d (.val (.int .i64 y.ve)),.d (.val (.int .i64 y.un)),.d (.val (.int .i64 y.ue))]]) (n0:=y.args.length) ⟨0,ad _,rfl,rfl,rfl,rfl⟩ ?_)
  rintro n Fr H ⟨k,hk,rfl,hf,rfl,rfl⟩
  by_cases hlt:k<y.args.length
  case pos =>
   obtain ⟨z,hz⟩:∃ z,y.args[k]?=some z:=⟨_,gE hlt⟩
   have WI:=Fc z 0 ((ps.length:Nat) - 1)
   unfold Lx at WI
   by_cases hb:0≤z∧z<((ps.length:Nat):Int)
   case neg =>
    rw [be3 h1 h2 hM (RQ hz hb hf)]
    rw [decide_eq_false (by omega)] at WI
    repeat' (with_reducible first|refine qq ?_|refine Sr ?_|refine AlK ?_|(refine Tx 13 ?_;refine gO xA ?_))
    exact Ds
   exact AhY
  obtain rfl:k=y.args.length:=by omega
  rw [aj (by rw [af];exact aa _)] at hf
  clear hlt hk
  generalize hv:Pd y.kind=vu at SV
  generalize hc:Lz y.kind=cu at SU
  have hv1:vu=false:=by rw [←hv,k0];rfl
  have hc1:cu=false:=by rw [←hc,k0];rfl
  subst hv1 hc1
  by_cases h4:CD y.vn y.ve false=0
  case neg =>
   exact Ra
  exact Us
 case neg =>
  have hM:EE ps.length bs.length y.kind=bs.length:=if_neg k0
  repeat' (with_reducible first|refine qq ?_|refine Agu ?_|(refine Tx 4 ?_;refine gO xF <| gO xD <| gO xN <| gO xM <| gO xNe ?_)|refine Apc ?_)
  refine AJ (Be 2) (Al (fun n Fr H=>∃ k:Nat,k≤y.args.length∧n=y.args.length - k∧Ar ((y.args.map (NK bs.length)).take k)=0∧Fr=ofL [(2,vr 0),(3,vr 1),(6,vi bs.length),(32,vd (AU t y.args)),(33,vi y.args.length),(34,vi ((k:Nat)))]∧H=[.box 26 [.d (CY t ps),.d (Cw t bs),.d (AU t os)],.box 65 [.d (.val (.int .i64 y.kind)),.d (AU t y.args),.d (.val (.int .i64 y.vn)),.d (.val (.int .i64 y.ve)),.d (.val (.int .i64 y.un)),.d (.val (.int .i64 y.ue))]]) (n0:=y.args.length) ⟨0,ad _,rfl,rfl,rfl,rfl⟩ ?_)
  rintro n Fr H ⟨k,hk,rfl,hf,rfl,rfl⟩
  by_cases hlt:k<y.args.length
  case pos =>
   obtain ⟨z,hz⟩:∃ z,y.args[k]?=some z:=⟨_,gE hlt⟩
   have WI:=Fc z 0 ((bs.length:Nat) - 1)
   unfold Lx at WI
   by_cases hb:0≤z∧z<((bs.length:Nat):Int)
   case neg =>
    rw [be3 h1 h2 hM (RQ hz hb hf)]
    rw [decide_eq_false (by omega)] at WI
    repeat' (with_reducible first|refine qq ?_|refine Sr ?_|refine AlK ?_|(refine Tx 13 ?_;refine gO xA ?_))
    exact Ds
   exact AhY
  obtain rfl:k=y.args.length:=by omega
  rw [aj (by rw [af];exact aa _)] at hf
  clear hlt hk
  generalize hv:Pd y.kind=vu at SV
  generalize hc:Lz y.kind=cu at SU
  by_cases k11:y.kind=11
  case pos =>
   have hv1:vu=true:=by rw [←hv,k11];rfl
   have hc1:cu=true:=by rw [←hc,k11];rfl
   subst hv1 hc1
   by_cases h4:CD y.vn y.ve true=0
   case neg =>
    exact Ra
   rw [h4] at SV
   by_cases h5:CD y.un y.ue true=0
   case neg =>
    rw [be5 h1 h2 hM hf hv h4 hc h5]
    repeat' (with_reducible first|refine qq ?_|refine Sr ?_|refine ZT ?_|refine AcV ?_|(refine Tx 21 ?_;refine gO xM <| gO xA ?_))
    exact QY
   rw [h5] at SU
   have o1:=Pe h4
   have o2:=Pe h5
   have CM:=AlJ y.vn y.ve y.un y.ue o1 o2
   generalize hq:NJ y.vn y.ve y.un y.ue=q at CM
   by_cases h6:0<q
   case pos =>
    rw [be6 h1 h2 hM hf hv h4 hc h5 ⟨rfl,by rw [hq];exact h6⟩]
    repeat' (with_reducible first|refine qq ?_|refine Sr ?_|refine ZT ?_|refine AcV ?_|refine Ape ?_|(refine Tx 23 ?_;refine gO xA ?_))
    exact Ds
   rw [be7 h1 h2 hM hf hv h4 hc h5 (fun h=>h6 (by rw [←hq];exact h.2))]
   repeat' (with_reducible first|refine qq ?_|refine Sr ?_|refine ZT ?_|refine AcV ?_|refine Ape ?_|(refine Tx 24 ?_;refine gO xA ?_))
   exact Ds
  have hc1:cu=false:=by rw [←hc];exact Ek k11
  subst hc1
  by_cases kv:y.kind=1∨y.kind=2∨y.kind=6
  case pos =>
   have hv1:vu=true:=by rw [←hv];rcases kv with h|h|h <;> (rw [h];rfl)
   subst hv1
   rcases kv with kv|kv|kv
   ·
    by_cases h4:CD y.vn y.ve true=0
    case neg =>
     exact Ra
    exact Us
   ·
    by_cases h4:CD y.vn y.ve true=0
    case neg =>
     exact Ra
    exact Us
   ·
    by_cases h4:CD y.vn y.ve true=0
    case neg =>
     exact Ra
    exact Us
  have hv1:vu=false:=by rw [←hv];unfold Pd;rw [Ek k11,Ek (by omega),Ek (by omega),Ek (by omega)];rfl
  subst hv1
  by_cases h4:CD y.vn y.ve false=0
  case neg =>
   exact Ra
  exact Us
theorem AhZ (h:p:=by
 refine ⟨_,_,Gw _ 2 ?_ ?_ ?_,_,by omega,k+1,by omega,rfl,rfl,rfl⟩
 ·rfl
 ·exact mB rfl rfl
 ·exact ⟨BS rfl,OY,trivial⟩):p:=h
theorem PA (t:Bool) {ps:List Prt} {bs:List Bk} {os:List Int} (hl:Dx ps bs os):CV prog Ah 44 [aDg t ps bs os] [.one (AU false (BU (AX bs)))]:=by
 refine cvz func44 ntmps44 ?_
 have hl2:=hl.l2
 have hall:AX bs=fl (CL bs) bs.length:=rfl
 repeat' (with_reducible first|refine qq ?_|(refine Tx 0 ?_;refine gN xBo <| gO xA ?_)|(refine Tx 1 ?_;refine gO xA ?_))
 refine AJ (Fh 3 3 1 rfl) ?_
 repeat' (with_reducible first|refine qq ?_|(refine Tx 2 ?_;refine gO xF <| gO xD <| gO xN <| gO xM ?_))
 refine AJ (Be 2) (Al (fun n Fr H=>∃ k:Nat,k≤bs.length∧n=bs.length - k∧Fr=ofL [(1,vr 0),(3,vo 1 ((BU (fl (CL bs) k)).length)),(7,vd (Cw t bs)),(8,vi bs.length),(9,vi ((k:Nat)))]∧H=[.box 26 [.d (CY t ps),.d (Cw t bs),.d (AU t os)],.row 3 1 (BU (fl (CL bs) (k))).length (cI (BU (fl (CL bs) (k))))]) (n0:=bs.length) ⟨0,ad _,rfl,rfl,rfl⟩ ?_)
 rintro n Fr H ⟨k,hk,rfl,rfl,rfl⟩
 by_cases hlt:k<bs.length
 case pos =>
  obtain ⟨y,hy⟩:∃ y,bs[k]?=some y:=⟨_,gE hlt⟩
  have hfl:=AkI (CL bs) k
  have hnl:=BP (fl (CL bs) k)
  by_cases k2:y.kind=2
  case pos =>
   have hd:CL bs k=true:=by unfold CL;rw [Fk hy,k2];rfl
   have hap:(BU (fl (CL bs) (k)))++[(k:Int)]=(BU (fl (CL bs) (k+1))):=by rw [AbB hd,Oh]
   have hap2:(BU (fl (CL bs) (k))).length+1=(BU (fl (CL bs) (k+1))).length:=by rw [←hap,ao];rfl
   repeat' (with_reducible first|refine qq ?_|(refine Tx 3 ?_;refine gO xLt ?_)|(refine Tx 4 ?_;refine gO xM <| gO (xIr Ak (Dq hy)) <| gO xL <| gN (xAl Bu) <| gO xA <| gZ (xSk Bh) ?_)|(refine Tx 5 ?_;refine gO xF <| gO xD <| gO xEq ?_)|(refine Tx 6 ?_;refine gO xM <| gO xM <| gN (by exact BH rfl Ae CC rfl rfl (by decide) (by decide)) <| gT (by exact QJ rfl rfl rfl rfl rfl rfl Ae CC (by omega) (by decide) hap hap2) <| gO xA ?_)|(refine Tx 7 ?_;refine gO xAd <| gO xM ?_))
   exact AhZ
  have hd:CL bs k=false:=by unfold CL;rw [Fk hy];exact Ek k2
  have hno:(BU (fl (CL bs) (k+1)))=(BU (fl (CL bs) (k))):=by rw [AkH hd]
  repeat' (with_reducible first|refine qq ?_|(refine Tx 3 ?_;refine gO xLt ?_)|(refine Tx 4 ?_;refine gO xM <| gO (xIr Ak (Dq hy)) <| gO xL <| gN (xAl Bu) <| gO xA <| gZ (xSk Bh) ?_)|(refine Tx 5 ?_;refine gO xF <| gO xD <| gO xEq ?_)|(refine Tx 7 ?_;refine gO xAd <| gO xM ?_))
  rw [←hno]
  exact AhZ
 obtain rfl:k=bs.length:=by omega
 rw [hall]
 repeat' (with_reducible first|refine qq ?_|(refine Tx 3 ?_;refine gO xLt ?_)|(refine Tx 8 ?_;refine gO xM <| gO xA ?_))
 exact Au rfl (.cons_ (XK rfl rfl rfl) .nil_)
theorem AcX (t:Bool) (xs:List Int) (z:Int) (hn:xs.length≤1000000):CV prog Ah 96 [.one (AU t xs),aI z] [aB (xs.contains z)]:=by
 refine cvz func96 ntmps96 ?_
 repeat' (with_reducible first|refine qq ?_|(refine Tx 0 ?_;refine gO xA ?_)|(refine Tx 1 ?_;refine gO xM <| gO xN <| gO xM ?_))
 refine AJ (Be 0) (Al (fun n Fr H=>∃ k:Nat,k≤xs.length∧n=xs.length - k∧(xs.take k).contains z=false∧Fr=ofL [(1,vi z),(7,vd (AU t xs)),(8,vi xs.length),(9,vi ((k:Nat)))]∧H=[]) (n0:=xs.length) ⟨0,ad _,rfl,rfl,rfl,rfl⟩ ?_)
 rintro n Fr H ⟨k,hk,rfl,hc,rfl,rfl⟩
 by_cases hlt:k<xs.length
 case pos =>
  obtain ⟨x,hx⟩:∃ x,xs[k]?=some x:=⟨_,gE hlt⟩
  by_cases he:x=z
  case pos =>
   have hb:xs.contains z=true:=List.contains_iff_mem.2 (by rw [←he];exact gM hx)
   rw [hb]
   repeat' (with_reducible first|refine qq ?_|(refine Tx 2 ?_;refine gO xLt ?_)|(refine Tx 3 ?_;refine gO (xIr Ae (Ay hx)) <| gO xD <| gO xA ?_)|(refine Tx 4 ?_;refine gO xM <| gO xM <| gO xEq ?_)|(refine Tx 5 ?_;refine gO xA ?_))
   exact Au rfl (.cons_ (Db rfl (rfl)) .nil_)
  repeat' (with_reducible first|refine qq ?_|(refine Tx 2 ?_;refine gO xLt ?_)|(refine Tx 3 ?_;refine gO (xIr Ae (Ay hx)) <| gO xD <| gO xA ?_)|(refine Tx 4 ?_;refine gO xM <| gO xM <| gO xEq ?_)|(refine Tx 6 ?_;refine gO xAd <| gO xM ?_))
  refine ⟨_,_,Be 0,_,by omega,k+1,by omega,rfl,(by rw [bh,hx,fp,List.contains_append,hc,cj];simp [Ne.symm he]),rfl,rfl⟩
 obtain rfl:k=xs.length:=by omega
 rw [aq] at hc
 rw [hc]
 repeat' (with_reducible first|refine qq ?_|(refine Tx 2 ?_;refine gO xLt ?_)|(refine Tx 7 ?_;refine gO xA ?_))
 exact Au rfl (.cons_ (Db rfl (rfl)) .nil_)
theorem Wr (t:Bool) (y:Bk):CVB prog Ah 97 [.agg (dBk t y)] (AU t (if y.kind=0 then [] else y.args)):=by
 refine AhB NL func97 ntmps97 (ax rfl) rfl ?_
 by_cases k0:y.kind=0
 case pos =>
  rw [if_pos k0]
  repeat' (with_reducible first|refine qq ?_|(refine Tx 0 ?_;refine gN xBo <| gO xA ?_)|(refine Tx 1 ?_;refine gO xF <| gO xD <| gO xEq ?_)|(refine Tx 2 ?_;refine gO xA ?_)|(refine Tx 3 ?_;refine gO xF <| gO xD <| gO xA ?_))
  exact ⟨.inl rfl,_,_,results97,rfl,RR⟩
 rw [if_neg k0]
 repeat' (with_reducible first|refine qq ?_|(refine Tx 0 ?_;refine gN xBo <| gO xA ?_)|(refine Tx 1 ?_;refine gO xF <| gO xD <| gO xEq ?_)|(refine Tx 2 ?_;refine gO xA ?_)|(refine Tx 3 ?_;refine gO xF <| gO xD <| gO xA ?_))
 exact ⟨.inl rfl,_,_,results97,rfl,fun _ _ _ h=>h⟩
theorem AlL (k:p') (h:Hd9 p'→p:=by with_reducible first|(intro Z9;refine Tx 5 ?_;refine gO xM <| gO (xIr Ak (Dq hy)) <| gO xL <| gN (xAl Bu) <| gO xA <| gZ (xSk Bh) ?_;exact Z9.o)|(intro Z9;refine Tx 6 ?_;refine gO xF <| gO xD <| gO xEq <| gO xM ?_;(first|iterate 3 refine Jd ?_|(refine Jy xM1 ?_;refine Jy xM1 ?_;refine Jy (xCl func96 HC (ha:=by with_unfolding_all first|((repeat' first|exact Br rfl rfl|refine AO rfl rfl ?_ ?_|refine Dn rfl rfl ?_|refine Cf rfl rfl ?_|exact Bi rfl (fun h=>by cases h)|exact XL rfl rfl rfl rfl) <;> fail)|fail)) ?_));refine gO xPk ?_;exact Z9.o)|fail):p:=h ⟨k⟩
theorem AlM (k:p') (h:Hd9 p'→p:=by with_reducible first|(intro Z9;refine Tx 10 ?_;refine gO (xIr Ae (Ay hz)) <| gO xD <| gO xA ?_;exact Z9.o)|(intro Z9;refine Tx 11 ?_;refine gO xM <| gO xM ?_;(first|iterate 8 refine Jd ?_|(refine Jy (xFa CU Bt) ?_;refine Jy (xLd Bt) ?_;refine Jy xM1 ?_;refine Jy (by exact DG (i:=z.toNat) rfl rfl rfl hzn Ak (by omega) (by decide) (Dq hx)) ?_;refine Jy (xFa EB Az) ?_;refine Jy (xLd Az) ?_;refine Jy xEq ?_;refine Jy xM1 ?_));(first|iterate 3 refine Jd ?_|(refine Jy xM1 ?_;refine Jy xM1 ?_;refine Jy (xCl func96 HZ (ha:=by with_unfolding_all first|((repeat' first|exact Br rfl rfl|refine AO rfl rfl ?_ ?_|refine Dn rfl rfl ?_|refine Cf rfl rfl ?_|exact Bi rfl (fun h=>by cases h)|exact XL rfl rfl rfl rfl) <;> fail)|fail)) ?_));(first|refine Jd ?_|refine Jy xPk ?_);refine gO xPk <| gO xA ?_;exact Z9.o)|(intro Z9;refine Tx 12 ?_;refine gO xAd <| gO xM ?_;exact Z9.o)|fail):p:=h ⟨k⟩
theorem AcY (h:p:=by
 refine ⟨_,_,Gw _ 2 ?_ ?_ ?_,_,by omega,k+1,by omega,rfl,hN.succ hr,rfl,rfl⟩
 ·rfl
 ·exact mB rfl rfl
 ·exact ⟨BS rfl,OY,trivial⟩):p:=h
theorem Aia (h:p:=by
 refine ⟨_,_,Gw _ 2 ?_ ?_ ?_,_,by omega,u+1,_,by omega,rfl,by rw [hst,←hb,hdz];try rfl,rfl,rfl⟩
 ·rfl
 ·exact mB rfl rfl
 ·exact ⟨BS rfl,OY,trivial⟩):p:=h
theorem Rb (t:Bool) {ps:List Prt} {bs:List Bk} {os:List Int} (hl:Dx ps bs os) (hS:Xv bs):CV prog Ah 43 [aDg t ps bs os] [.one (AU false (BU (Co bs)))]:=by
 refine cvz func43 ntmps43 ?_
 have hl2:=hl.l2
 have hnd:=Hm bs
 repeat' (with_reducible first|refine qq ?_|(refine Tx 0 ?_;refine gN xBo <| gO xA ?_)|(refine Tx 1 ?_;refine gO xA ?_))
 refine AJ (Fh 3 3 1 rfl) ?_
 refine AJ (Be 2) (Al (fun n Fr H=>∃ out:List Nat,Ly bs out∧n=Dw bs - out.length∧Fr=ofL [(1,vr 0),(3,vo 1 ((BU out).length))]∧H=[.box 26 [.d (CY t ps),.d (Cw t bs),.d (AU t os)],.row 3 1 (BU out).length (cI (BU out))]) (n0:=Dw bs) ⟨[],Ly.nil bs,rfl,rfl,rfl⟩ ?_)
 rintro n Fr H ⟨out,hO,rfl,rfl,rfl⟩
 have hle:=hO.ok.le
 have hnl:=BP out
 repeat' (with_reducible first|refine qq ?_|(refine Tx 2 ?_;refine gO xA ?_)|(refine Tx 3 ?_;refine gO xF <| gO xD <| gO xN <| gO xM ?_))
 refine AJ (Be 2) (Al (fun n Fr H=>∃ k:Nat,k≤bs.length∧n=bs.length - k∧RN bs out k∧Fr=ofL [(1,vr 0),(3,vo 1 ((BU out).length)),(4,vi (-1)),(11,vd (Cw t bs)),(12,vi bs.length),(13,vi ((k:Nat)))]∧H=[.box 26 [.d (CY t ps),.d (Cw t bs),.d (AU t os)],.row 3 1 (BU out).length (cI (BU out))]) (n0:=bs.length) ⟨0,ad _,rfl,RN.zero bs out,rfl,rfl⟩ ?_)
 rintro n Fr H ⟨k,hk,rfl,hN,rfl,rfl⟩
 by_cases hlt:k<bs.length
 case pos =>
  obtain ⟨y,hy⟩:∃ y,bs[k]?=some y:=⟨_,gE hlt⟩
  have HC:=AcX true (BU out) (k:Int) (by omega)
  rw [XD] at HC
  have hdb:=XF (out:=out) hy
  generalize out.contains k=ck at HC hdb
  by_cases k2:y.kind=2
  case pos =>
   have hr:rdy bs out k=false:=by rw [Pb,hdb,k2];rfl
   repeat' (with_reducible first|refine qq ?_|(refine Tx 4 ?_;refine gO xLt ?_)|refine AlL ?_|(refine Tx 15 ?_;refine gO xAd <| gO xM ?_))
   exact AcY
  rw [Ek k2,cj] at hdb
  cases ck
  case true =>
   have hr:rdy bs out k=false:=by rw [Pb,hdb];rfl
   repeat' (with_reducible first|refine qq ?_|(refine Tx 4 ?_;refine gO xLt ?_)|refine AlL ?_|(refine Tx 15 ?_;refine gO xAd <| gO xM ?_))
   exact AcY
  have hrd:rdy bs out k=(NI bs k).all fun z=>EU bs out z.toNat:=by rw [Pb,hdb];rfl
  have BF:=Wr t y
  obtain ⟨xs,hxs⟩:∃ xs,NI bs k=xs:=⟨_,rfl⟩
  rw [←Og hy,hxs] at BF
  have hxl:xs.length≤1000000:=by rw [←hxs,Og hy];have:=hl.la y (gM hy);split <;> first|exact this|exact ad _
  have hbd:∀ z∈xs,0≤z∧z<(bs.length:Int):=fun z hz=>hS k hlt z (by rw [hxs];exact hz)
  rw [hxs] at hrd
  repeat' (with_reducible first|refine qq ?_|(refine Tx 4 ?_;refine gO xLt ?_)|refine AlL ?_|(refine Tx 7 ?_;refine gO xA ?_)|(refine Tx 8 ?_;refine gO xL <| gO (xCb func97 BF) <| gO xN <| gO xM ?_))
  refine AJ (Be 2) (Al (fun n Fr H=>∃ (u:Nat) (b:Bool),u≤xs.length∧n=xs.length - u∧b=AkJ bs out xs u∧Fr=ofL [(1,vr 0),(3,vo 1 ((BU out).length)),(4,vi (-1)),(5,vi ((k:Nat))),(7,vd (.val (.bool b))),(11,vd (Cw t bs)),(12,vi bs.length),(13,vi ((k:Nat))),(27,vd (AU t xs)),(28,vi xs.length),(29,vi ((u:Nat)))]∧H=[.box 26 [.d (CY t ps),.d (Cw t bs),.d (AU t os)],.row 3 1 (BU out).length (cI (BU out))]) (n0:=xs.length) ⟨0,true,ad _,rfl,rfl,rfl,rfl⟩ ?_)
  rintro n Fr H ⟨u,b,hu,rfl,hb,rfl,rfl⟩
  by_cases hlu:u<xs.length
  case pos =>
   obtain ⟨z,hz⟩:∃ z,xs[u]?=some z:=⟨_,gE hlu⟩
   obtain ⟨z0,z1⟩:=hbd z (gM hz)
   obtain ⟨x,hx⟩:∃ x,bs[z.toNat]?=some x:=⟨_,gE (by omega)⟩
   have hst:=Ub (bs:=bs) (out:=out) hz
   have HZ:=AcX true (BU out) z (by omega)
   have ez:(BU out).contains z=out.contains z.toNat:=by rw [←XD,Int.toNat_of_nonneg z0]
   rw [ez] at HZ
   have hdz:=XF (out:=out) hx
   generalize out.contains z.toNat=cz at HZ hdz
   have hzn:z=((z.toNat:Nat):Int):=(Int.toNat_of_nonneg z0).symm
   cases b
   case false =>
    repeat' (with_reducible first|refine qq ?_|(refine Tx 9 ?_;refine gO xLt ?_)|refine AlM ?_)
    refine ⟨_,_,Be 2,_,by omega,u+1,_,by omega,rfl,by rw [hst,←hb];try rfl,rfl,rfl⟩
   by_cases x2:x.kind=2
   case pos =>
    rw [x2] at hdz
    repeat' (with_reducible first|refine qq ?_|(refine Tx 9 ?_;refine gO xLt ?_)|refine AlM ?_)
    exact Aia
   rw [Ek x2,cj] at hdz
   repeat' (with_reducible first|refine qq ?_|(refine Tx 9 ?_;refine gO xLt ?_)|refine AlM ?_)
   exact Aia
  obtain rfl:u=xs.length:=by omega
  rw [XE (aa _),←hrd] at hb
  cases b
  case false =>
   have hr:=hb.symm
   repeat' (with_reducible first|refine qq ?_|(refine Tx 9 ?_;refine gO xLt ?_)|(refine Tx 13 ?_;refine gO xM ?_)|(refine Tx 15 ?_;refine gO xAd <| gO xM ?_))
   exact AcY
  have hnx:=AnS hlt hN hb.symm
  have hO2:=hO.push hnx
  have hlt2:=hO.lt hnx
  have hap:BU out++[(k:Int)]=BU (out++[k]):=(Oh out k).symm
  have hap2:(BU out).length+1=(BU (out++[k])).length:=by rw [BP,BP,ao];rfl
  repeat' (with_reducible first|refine qq ?_|(refine Tx 9 ?_;refine gO xLt ?_)|(refine Tx 13 ?_;refine gO xM ?_)|(refine Tx 14 ?_;refine gO xM <| gO xA ?_)|(refine Tx 16 ?_;refine gO xM <| gO xLt ?_)|(refine Tx 18 ?_;refine gO xM <| gO xM <| gN (by exact BH rfl Ae CC rfl rfl (by decide) (by decide)) <| gT (by exact QJ rfl rfl rfl rfl rfl rfl Ae CC (by omega) (by decide) hap hap2) <| gO xA ?_))
  refine ⟨_,_,Be 2,_,(by rw [ao];show Dw bs - (out.length+1)<_;omega),out++[k],hO2,rfl,rfl,rfl⟩
 obtain rfl:k=bs.length:=by omega
 have hod:=hO.done (Afv hN)
 rw [hod]
 repeat' (with_reducible first|refine qq ?_|(refine Tx 4 ?_;refine gO xLt ?_)|(refine Tx 16 ?_;refine gO xM <| gO xLt ?_)|(refine Tx 17 ?_;refine gO xM <| gO xA ?_))
 exact Au rfl (.cons_ (XK rfl rfl rfl) .nil_)
theorem Agv (k:p') (h:Hd9 p'→p:=by with_reducible first|(intro Z9;refine Tx 0 ?_;refine gN xBo <| gO xA ?_;exact Z9.o)|(intro Z9;refine Tx 1 ?_;refine gO xF <| gO xD <| gO xN <| gO xGt <| gO xM ?_;(first|iterate 4 refine Jd ?_|(refine Jy (xFa CU Bt) ?_;refine Jy (xLd Bt) ?_;refine Jy (xLn Ak) ?_;refine Jy xGt ?_));refine gO xPk <| gO xM ?_;(first|iterate 4 refine Jd ?_|(refine Jy (xFa Gv BJ) ?_;refine Jy (xLd BJ) ?_;refine Jy (xLn Ae) ?_;refine Jy xGt ?_));refine gO xPk ?_;exact Z9.o)|fail):p:=h ⟨k⟩
theorem AcZ (k:p') (h:Hd9 p'→p:=by with_reducible first|(intro Z9;refine Tx 5 ?_;refine gO (xIr Ci (IV hp)) <| gO xL <| gN (xAl OV) <| gZ (xSk Lv) ?_;exact Z9.o)|(intro Z9;refine Tx 6 ?_;refine gO xF <| gO xD <| gO xLt <| gO xM ?_;(first|iterate 5 refine Jd ?_|(refine Jy (xFa RK Az) ?_;refine Jy (xLd Az) ?_;refine Jy (xFa Mh Az) ?_;refine Jy (xLd Az) ?_;refine Jy xGt ?_));refine gO xPk <| gO xM ?_;(first|iterate 3 refine Jd ?_|(refine Jy (xFa Mh Az) ?_;refine Jy (xLd Az) ?_;refine Jy xGe ?_));refine gO xPk <| gO xM ?_;(first|iterate 4 refine Jd ?_|(refine Jy (xFa Oe Az) ?_;refine Jy (xLd Az) ?_;refine Jy (xCl func41 (WI)) ?_;refine Jy Uq ?_));refine gO xPk ?_;exact Z9.o)|fail):p:=h ⟨k⟩
theorem Apf (k:p') (h:Hd9 p'→p:=by with_reducible first|(intro Z9;refine Tx 18 ?_;refine gO (xIr Ae (Ay hz)) <| gO xD <| gO xA ?_;exact Z9.o)|(intro Z9;refine Tx 19 ?_;refine gO xM <| gO xF <| gO xD <| gO xN <| gO xSb <| gO (xCl func41 (WI)) <| gO Uq ?_;exact Z9.o)|fail):p:=h ⟨k⟩
theorem Apg (k:p') (h:Hd9 p'→p:=by with_reducible first|(intro Z9;refine Bl (id:=22) AC (by kernel_rfl) ?_;refine gP xL <| gP (xCl func43 (OR)) <| gP xN <| gP xL <| gP (xCl func44 (DL)) <| gP xN <| gP xAd <| gP xF <| gP xD <| gP xN <| gP xNe ?_;refine Ke ?_;exact Z9.o)|fail):p:=h ⟨k⟩
theorem Ada (t:Bool) {ps:List Prt} {bs:List Bk} {os:List Int} (hl:Dx ps bs os):CV prog Ah 13 [aDg t ps bs os] [aI (AY ps bs os)]:=by
 refine cvz func13 ntmps13 ?_
 have hl1:=hl.l1
 have hl2:=hl.l2
 have hl3:=hl.l3
 by_cases hs:FF ps bs os
 case neg =>
  rw [de0 hs]
  unfold FF at hs
  by_cases c1:ps.length≤16
  case neg =>
   repeat' (with_reducible first|refine qq ?_|refine Agv ?_|(refine Tx 2 ?_;refine gO xA ?_))
   exact Ds
  by_cases c2:bs.length≤64
  case neg =>
   repeat' (with_reducible first|refine qq ?_|refine Agv ?_|(refine Tx 2 ?_;refine gO xA ?_))
   exact Ds
  have c3:¬ os.length≤16:=fun h=>hs ⟨c1,c2,h⟩
  repeat' (with_reducible first|refine qq ?_|refine Agv ?_|(refine Tx 2 ?_;refine gO xA ?_))
  exact Ds
 have hs2:=hs
 unfold FF at hs2
 obtain ⟨c1,c2,c3⟩:=hs2
 repeat' (with_reducible first|refine qq ?_|refine Agv ?_|(refine Tx 3 ?_;refine gO xF <| gO xD <| gO xN <| gO xM ?_))
 refine AJ (Be 1) (Al (fun n Fr H=>∃ k:Nat,k≤ps.length∧n=ps.length - k∧Ar ((ps.map Fv).take k)=0∧Fr=ofL [(1,vr 0),(27,vd (CY t ps)),(28,vi ps.length),(29,vi ((k:Nat)))]∧H=[.box 26 [.d (CY t ps),.d (Cw t bs),.d (AU t os)]]) (n0:=ps.length) ⟨0,ad _,rfl,rfl,rfl,rfl⟩ ?_)
 rintro n Fr H ⟨k,hk,rfl,hf,rfl,rfl⟩
 by_cases hlt:k<ps.length
 case pos =>
  obtain ⟨p,hp⟩:∃ p,ps[k]?=some p:=⟨_,gE hlt⟩
  have WI:=Fc p.fr 0 30
  unfold Lx at WI
  by_cases he:Fv p=0
  case neg =>
   have h3:Fv p=3:=by unfold Fv at he ⊢;split at he;exact absurd rfl he;rename_i hn;rw [if_neg hn]
   rw [de1 hs (pe1 hp h3 (by decide) hf) (by decide)]
   unfold Fv at he
   by_cases q1 : -2147483648≤p.lo
   case neg =>
    repeat' (with_reducible first|refine qq ?_|(refine Tx 4 ?_;refine gO xLt ?_)|refine AcZ ?_|(refine Tx 7 ?_;refine gO xA ?_))
    exact Ds
   by_cases q2:p.lo≤p.hi
   case neg =>
    repeat' (with_reducible first|refine qq ?_|(refine Tx 4 ?_;refine gO xLt ?_)|refine AcZ ?_|(refine Tx 7 ?_;refine gO xA ?_))
    exact Ds
   by_cases q3:p.hi<2147483648
   case neg =>
    repeat' (with_reducible first|refine qq ?_|(refine Tx 4 ?_;refine gO xLt ?_)|refine AcZ ?_|(refine Tx 7 ?_;refine gO xA ?_))
    exact Ds
   have q4:¬ (0≤p.fr∧p.fr≤30):=fun h=>he (if_pos ⟨q1,q2,q3,h.1,h.2⟩)
   rw [decide_eq_false q4] at WI
   repeat' (with_reducible first|refine qq ?_|(refine Tx 4 ?_;refine gO xLt ?_)|refine AcZ ?_|(refine Tx 7 ?_;refine gO xA ?_))
   exact Ds
  have hq:=he
  unfold Fv at hq
  by_cases hn : -2147483648≤p.lo∧p.lo≤p.hi∧p.hi<2147483648∧0≤p.fr∧p.fr≤30
  case neg =>
   rw [if_neg hn] at hq
   cases hq
  obtain ⟨q1,q2,q3,q4,q5⟩:=hn
  rw [decide_eq_true ⟨q4,q5⟩] at WI
  repeat' (with_reducible first|refine qq ?_|(refine Tx 4 ?_;refine gO xLt ?_)|refine AcZ ?_|(refine Tx 8 ?_;refine gO xAd <| gO xM ?_))
  refine ⟨_,_,Be 1,_,by omega,k+1,by omega,rfl,fs1 hp he hf,rfl,rfl⟩
 obtain rfl:k=ps.length:=by omega
 have hP:=hf
 rw [aj (by rw [af];exact aa _)] at hP
 clear hlt hk hf
 repeat' (with_reducible first|refine qq ?_|(refine Tx 4 ?_;refine gO xLt ?_)|(refine Tx 9 ?_;refine gO xF <| gO xD <| gO xN <| gO xM ?_))
 refine AJ (Be 1) (Al (fun n Fr H=>∃ k:Nat,k≤bs.length∧n=bs.length - k∧Ar ((bs.map (Cd ps.length bs.length)).take k)=0∧Fr=ofL [(1,vr 0),(56,vd (Cw t bs)),(57,vi bs.length),(58,vi ((k:Nat)))]∧H=[.box 26 [.d (CY t ps),.d (Cw t bs),.d (AU t os)]]) (n0:=bs.length) ⟨0,ad _,rfl,rfl,rfl,rfl⟩ ?_)
 rintro n Fr H ⟨k,hk,rfl,hf,rfl,rfl⟩
 by_cases hlt:k<bs.length
 case pos =>
  obtain ⟨y,hy⟩:∃ y,bs[k]?=some y:=⟨_,gE hlt⟩
  have BC:=AcW t hl y (hl.la y (gM hy))
  generalize he:Cd ps.length bs.length y=e at BC
  by_cases h0:e=0
  case neg =>
   rw [de1 hs (pe2 hP hy he h0 hf) h0]
   repeat' (with_reducible first|refine qq ?_|(refine Tx 10 ?_;refine gO xLt ?_)|(refine Tx 11 ?_;refine gO (xIr Ak (Dq hy)) <| gO xL <| gN (xAl Bu) <| gZ (xSk Bh) ?_)|(refine Tx 12 ?_;refine gO xL <| gO xL <| gO (xCl func42 (BC)) <| gO xA ?_)|(refine Tx 13 ?_;refine gO xM <| gO xNe ?_)|(refine Tx 14 ?_;refine gO xM <| gO xA ?_))
   exact QY
  subst h0
  repeat' (with_reducible first|refine qq ?_|(refine Tx 10 ?_;refine gO xLt ?_)|(refine Tx 11 ?_;refine gO (xIr Ak (Dq hy)) <| gO xL <| gN (xAl Bu) <| gZ (xSk Bh) ?_)|(refine Tx 12 ?_;refine gO xL <| gO xL <| gO (xCl func42 (BC)) <| gO xA ?_)|(refine Tx 13 ?_;refine gO xM <| gO xNe ?_)|(refine Tx 15 ?_;refine gO xAd <| gO xM ?_))
  refine ⟨_,_,Be 1,_,by omega,k+1,by omega,rfl,fs1 hy he hf,rfl,rfl⟩
 obtain rfl:k=bs.length:=by omega
 have hB:=hf
 rw [aj (by rw [af];exact aa _)] at hB
 clear hlt hk hf
 repeat' (with_reducible first|refine qq ?_|(refine Tx 10 ?_;refine gO xLt ?_)|(refine Tx 16 ?_;refine gO xF <| gO xD <| gO xN <| gO xM ?_))
 refine AJ (Be 1) (Al (fun n Fr H=>∃ k:Nat,k≤os.length∧n=os.length - k∧Ar ((os.map (NK bs.length)).take k)=0∧Fr=ofL [(1,vr 0),(70,vd (AU t os)),(71,vi os.length),(72,vi ((k:Nat)))]∧H=[.box 26 [.d (CY t ps),.d (Cw t bs),.d (AU t os)]]) (n0:=os.length) ⟨0,ad _,rfl,rfl,rfl,rfl⟩ ?_)
 rintro n Fr H ⟨k,hk,rfl,hf,rfl,rfl⟩
 by_cases hlt:k<os.length
 case pos =>
  obtain ⟨z,hz⟩:∃ z,os[k]?=some z:=⟨_,gE hlt⟩
  have WI:=Fc z 0 ((bs.length:Nat) - 1)
  unfold Lx at WI
  by_cases hb:0≤z∧z<(bs.length:Int)
  case neg =>
   rw [de1 hs (pe3 hP hB hz (if_neg hb) (by decide) hf) (by decide)]
   rw [decide_eq_false (by omega)] at WI
   repeat' (with_reducible first|refine qq ?_|(refine Tx 17 ?_;refine gO xLt ?_)|refine Apf ?_|(refine Tx 20 ?_;refine gO xA ?_))
   exact Ds
  rw [decide_eq_true (by omega)] at WI
  have hb2:=hb
  obtain ⟨z0,z1⟩:=hb2
  repeat' (with_reducible first|refine qq ?_|(refine Tx 17 ?_;refine gO xLt ?_)|refine Apf ?_|(refine Tx 21 ?_;refine gO xAd <| gO xM ?_))
  refine ⟨_,_,Be 1,_,by omega,k+1,by omega,rfl,fs1 hz (if_pos hb) hf,rfl,rfl⟩
 obtain rfl:k=os.length:=by omega
 have hO:=hf
 rw [aj (by rw [af];exact aa _)] at hO
 clear hlt hk hf
 have hpe:=pe4 hP hB hO
 rw [de2 hs hpe]
 have OR:=Rb t hl (VT hB)
 have DL:=PA t hl
 have e1:=BP (Co bs)
 have e2:=BP (AX bs)
 have e3:=AkD bs
 have e4:=Hm bs
 have e5:=GY.le (Pa bs.length (GY.nil bs))
 have e5:(Co bs).length≤Dw bs:=e5
 unfold Gb
 by_cases ho:(Co bs).length=Dw bs
 case pos =>
  rw [if_pos ho]
  repeat' (with_reducible first|refine qq ?_|(refine Tx 17 ?_;refine gO xLt ?_)|refine Apg ?_|(refine Tx 24 ?_;refine gO xA ?_))
  exact Ds
 rw [if_neg ho]
 repeat' (with_reducible first|refine qq ?_|(refine Tx 17 ?_;refine gO xLt ?_)|refine Apg ?_|(refine Tx 23 ?_;refine gO xA ?_))
 exact Ds
theorem Iy (t:Bool) {ps:List Prt} {bs:List Bk} {os:List Int} (hl:Dx ps bs os):CV prog Ah 44 [aDg t ps bs os] [.one (AU false (BU (AX bs)))]:=PA t hl
theorem Ut (t:Bool) {ps:List Prt} {bs:List Bk} {os:List Int} (hl:Dx ps bs os) (h0:AY ps bs os=0):CV prog Ah 43 [aDg t ps bs os] [.one (AU false (BU (Co bs)))]:=Rb t hl (AbL h0)
def Nv (ps:List Prt) (bs:List Bk) (os:List Int):Bool:=decide (ps.length≤40∧bs.length≤80∧os.length≤40) && bs.all fun b=>decide (b.args.length≤10)
theorem XX (k:p') (h:Hd9 p'→p:=by with_reducible first|(intro Z9;refine Tx 0 ?_;refine gN xBo <| gO xA ?_;exact Z9.o)|(intro Z9;refine Tx 1 ?_;refine gO xF <| gO xD <| gO xN <| gO xGt <| gO xM ?_;(first|iterate 4 refine Jd ?_|(refine Jy (xFa CU Bt) ?_;refine Jy (xLd Bt) ?_;refine Jy (xLn Ak) ?_;refine Jy xGt ?_));refine gO xPk <| gO xM ?_;(first|iterate 4 refine Jd ?_|(refine Jy (xFa Gv BJ) ?_;refine Jy (xLd BJ) ?_;refine Jy (xLn Ae) ?_;refine Jy xGt ?_));refine gO xPk ?_;exact Z9.o)|fail):p:=h ⟨k⟩
theorem Adb (h:p:=by
 exact Au rfl (.cons_ (Db rfl (by unfold Nv;rw [decide_eq_false (by omega)];rfl)) .nil_)):p:=h
theorem Adc (t:Bool) (ps:List Prt) (bs:List Bk) (os:List Int):CV prog Ah 11 [aDg t ps bs os] [aB (Nv ps bs os)]:=by
 refine cvz func11 ntmps11 ?_
 by_cases cp:40<ps.length
 case pos =>
  repeat' (with_reducible first|refine qq ?_|refine XX ?_|(refine Tx 2 ?_;refine gO xA ?_))
  exact Adb
 by_cases cb:80<bs.length
 case pos =>
  repeat' (with_reducible first|refine qq ?_|refine XX ?_|(refine Tx 2 ?_;refine gO xA ?_))
  exact Adb
 by_cases co:40<os.length
 case pos =>
  repeat' (with_reducible first|refine qq ?_|refine XX ?_|(refine Tx 2 ?_;refine gO xA ?_))
  exact Adb
 repeat' (with_reducible first|refine qq ?_|refine XX ?_|(refine Tx 3 ?_;refine gO xF <| gO xD <| gO xN <| gO xM ?_))
 refine AJ (Be 1) (Al (fun n Fr H=>∃ k:Nat,k≤bs.length∧n=bs.length - k∧(bs.take k).all (fun b:Bk=>decide (b.args.length≤10))=true∧Fr=ofL [(1,vr 0),(22,vd (Cw t bs)),(23,vi bs.length),(24,vi ((k:Nat)))]∧H=[.box 26 [.d (CY t ps),.d (Cw t bs),.d (AU t os)]]) (n0:=bs.length) ⟨0,ad _,rfl,rfl,rfl,rfl⟩ ?_)
 rintro n Fr H ⟨k,hk,rfl,hall,rfl,rfl⟩
 by_cases hlt:k<bs.length
 case pos =>
  obtain ⟨y,hy⟩:∃ y,bs[k]?=some y:=⟨_,gE hlt⟩
  by_cases hy10:y.args.length≤10
  case pos =>
   repeat' (with_reducible first|refine qq ?_|(refine Tx 4 ?_;refine gO xLt ?_)|(refine Tx 5 ?_;refine gO (xIr Ak (Dq hy)) <| gO xL <| gN (xAl Bu) <| gZ (xSk Bh) ?_)|(refine Tx 6 ?_;refine gO xF <| gO xD <| gO xN <| gO xGt ?_)|(refine Tx 8 ?_;refine gO xAd <| gO xM ?_))
   refine ⟨_,_,Be 1,_,?_,k+1,by omega,rfl,XI hy hall (decide_eq_true hy10),rfl,rfl⟩
   ·omega
  case neg =>
   repeat' (with_reducible first|refine qq ?_|(refine Tx 4 ?_;refine gO xLt ?_)|(refine Tx 5 ?_;refine gO (xIr Ak (Dq hy)) <| gO xL <| gN (xAl Bu) <| gZ (xSk Bh) ?_)|(refine Tx 6 ?_;refine gO xF <| gO xD <| gO xN <| gO xGt ?_)|(refine Tx 7 ?_;refine gO xA ?_))
   exact Au rfl (.cons_ (Db rfl (by unfold Nv;rw [show bs.all (fun b:Bk=>decide (b.args.length≤10))=false from List.all_eq_false.2 ⟨y,gM hy,by rw [decide_eq_false hy10];exact Bool.false_ne_true⟩,je])) .nil_)
 obtain rfl:k=bs.length:=by omega
 rw [aq] at hall
 repeat' (with_reducible first|refine qq ?_|(refine Tx 4 ?_;refine gO xLt ?_)|(refine Tx 9 ?_;refine gO xA ?_))
 exact Au rfl (.cons_ (Db rfl (by unfold Nv;rw [hall,decide_eq_true (by omega)];rfl)) .nil_)
theorem Agw (ps:List Prt) (bs:List Bk) (os:List Int):CV prog Ah 11 [aDg true ps bs os] [aB (Nv ps bs os)]:=Adc true ps bs os
theorem Add (h:Nv ps bs os=true):Dx ps bs os∧bs.length≤80:=by
 unfold Nv at h
 rw [ai] at h
 have h1:=of_decide_eq_true h.1
 exact ⟨⟨by omega,by omega,by omega,fun b hb=>by have:=of_decide_eq_true (List.all_eq_true.1 h.2 b hb);omega⟩,h1.2.1⟩
theorem Ade (E:Int):CVF prog Ah 14 [aE E] [aI E]:=fun w S vs hg hlt ha=>by
 obtain ⟨u,hu,h2⟩:=BM ha
 subst hu
 cases h2
 refine (AjU E w).mono fun r w' ⟨he,hw⟩=>?_
 subst hw
 exact ⟨_,he,Bx.val rfl,ab _ _⟩
theorem Adf {p:Int × Nat} {k:Nat} (h:Nf p.1 p.2) (hl:(Ac p.1.natAbs).length≤k) (hn:32*k≤n):Sm p n 65536:=by
 refine ⟨h,?_,h.1⟩
 have hlt:p.1.natAbs<2 ^ (32*(Ac p.1.natAbs).length):=by have:=BO (AE p.1.natAbs);rw [Ao] at this;rw [dt];exact this
 exact al hlt (au (by decide) (by omega))
def Uu (r s:Rv):Bool:=decide (r.nb=s.nb∧r.den=s.den∧r.ws=s.ws)
theorem Aph {p:Int × Nat}:Uu (DU p) (DU q)=decide (p=q):=by
 unfold Uu
 refine decide_eq_decide.2 ⟨fun ⟨h1,h2,h3⟩=>?_,fun h=>by rw [h];exact ⟨rfl,rfl,rfl⟩⟩
 have:DU p=DU q:=by
  cases hp:DU p;cases hq:DU q
  simp_all
 rw [←GP p,this,GP]
section
variable {P:Program} {G:World→Prop} {o:Oper} {F:Frm} {H:List Ob}
theorem Agx {t t':TypeId} {x y:Operand} {p q:Bool} (ho:o.op=.binOp .neq t x y t') (ht:P.underlying t=some .bool) (hx:F.ev x=.one (.d (.val (.bool p)))) (hy:F.ev y=.one (.d (.val (.bool q)))) (h:¬ p=q):AZ P G o F H (.one (.d (.val (.bool true)))) []:=by
 have:=VW (P:=P) (G:=G) (H:=H) ho ht hx hy
 rwa [show (p != q)=true by cases p <;> cases q <;> simp_all] at this
theorem Agy {t t':TypeId} {x y:Operand} {p q:Bool} (ho:o.op=.binOp .neq t x y t') (ht:P.underlying t=some .bool) (hx:F.ev x=.one (.d (.val (.bool p)))) (hy:F.ev y=.one (.d (.val (.bool q)))) (h:p=q):AZ P G o F H (.one (.d (.val (.bool false)))) []:=by
 have:=VW (P:=P) (G:=G) (H:=H) ho ht hx hy
 rwa [show (p != q)=false by subst h;cases p <;> rfl] at this
end
theorem XY {α:Type} {l m:List α} {k:Nat} {x:α} (h:l.take k=m.take k) (h1:l[k]?=some x) (h2:m[k]?=some x):l.take (k+1)=m.take (k+1):=by rw [bh,bh,h,h1,h2]
theorem Api {α:Type} {l m:List α} {k:Nat} {x y:α} (h1:l[k]?=some x) (h2:m[k]?=some y) (h:x≠y):l≠m:=fun e=>h (by subst e;rw [h1] at h2;exact Option.some.inj h2)
theorem Adg (k:p') (h:Hd9 p'→p:=by with_reducible first|(intro Z9;refine Tx 1 ?_;refine gO xF <| gO xD <| gO xF <| gO xD <| gO (by first|exact Agy rfl underlying4 rfl rfl hb|exact xNe) <| gO xM ?_;(first|iterate 5 refine Jd ?_|(refine Jy (xFa FZ Az) ?_;refine Jy (xLd Az) ?_;refine Jy (xFa FZ Az) ?_;refine Jy (xLd Az) ?_;refine Jy xNe ?_));refine gO xPk <| gO xM ?_;(first|iterate 7 refine Jd ?_|(refine Jy (xFa EZ BQ) ?_;refine Jy (xLd BQ) ?_;refine Jy (xLn BK) ?_;refine Jy (xFa EZ BQ) ?_;refine Jy (xLd BQ) ?_;refine Jy (xLn BK) ?_;refine Jy xNe ?_));refine gO xPk ?_;exact Z9.o)|fail):p:=h ⟨k⟩
theorem Apj (h:p:=by first|exact xIr BK (RZ hp)|exact xIr BK (RZ hq)):p:=h
theorem Aib (k:p') (h:Hd9 p'→p:=by with_reducible first|(intro Z9;refine Tx 5 ?_;refine gO xM <| gO xA ?_;exact Z9.o)|(intro Z9;refine Bl (id:=6) AC (by kernel_rfl) ?_;refine gP xF <| gP xD <| gP xM <| gP Apj <| gP xD <| gP xF <| gP xD <| gP xM <| gP Apj <| gP xD <| gP xNe ?_;refine Ke ?_;exact Z9.o)|fail):p:=h ⟨k⟩
theorem Adh (t u:Bool) (r s:Rv) (hr:r.ws.length≤1000000) (hs:s.ws.length≤1000000):CV prog Ah 99 [aRv t r,aRv u s] [aB (Uu r s)]:=by
 refine cvz func99 ntmps99 ?_
 have l1:r.ws.length≤1000000:=hr
 have l2:s.ws.length≤1000000:=hs
 by_cases hb:r.nb=s.nb
 case neg =>
  repeat' (with_reducible first|refine qq ?_|(refine Tx 0 ?_;refine gN xBo <| gN xBo <| gO xA ?_)|(refine Tx 1 ?_;refine gO xF <| gO xD <| gO xF <| gO xD <| gO (by first|exact Agx rfl underlying4 rfl rfl hb|exact xNe) <| gO xM ?_;(first|iterate 5 refine Jd ?_|(refine Jy (xFa FZ Az) ?_;refine Jy (xLd Az) ?_;refine Jy (xFa FZ Az) ?_;refine Jy (xLd Az) ?_;refine Jy xNe ?_));refine gO xPk <| gO xM ?_;(first|iterate 7 refine Jd ?_|(refine Jy (xFa EZ BQ) ?_;refine Jy (xLd BQ) ?_;refine Jy (xLn BK) ?_;refine Jy (xFa EZ BQ) ?_;refine Jy (xLd BQ) ?_;refine Jy (xLn BK) ?_;refine Jy xNe ?_));refine gO xPk ?_)|(refine Tx 2 ?_;refine gO xA ?_))
  exact Au rfl (.cons_ (Db rfl (by unfold Uu;rw [decide_eq_false (fun h=>hb h.1)])) .nil_)
 by_cases hd:r.den=s.den
 case neg =>
  repeat' (with_reducible first|refine qq ?_|(refine Tx 0 ?_;refine gN xBo <| gN xBo <| gO xA ?_)|refine Adg ?_|(refine Tx 2 ?_;refine gO xA ?_))
  exact Au rfl (.cons_ (Db rfl (by unfold Uu;rw [decide_eq_false (fun h=>hd h.2.1)])) .nil_)
 by_cases hl:r.ws.length=s.ws.length
 case neg =>
  repeat' (with_reducible first|refine qq ?_|(refine Tx 0 ?_;refine gN xBo <| gN xBo <| gO xA ?_)|refine Adg ?_|(refine Tx 2 ?_;refine gO xA ?_))
  exact Au rfl (.cons_ (Db rfl (by unfold Uu;rw [decide_eq_false (fun h=>hl (by rw [h.2.2]))])) .nil_)
 repeat' (with_reducible first|refine qq ?_|(refine Tx 0 ?_;refine gN xBo <| gN xBo <| gO xA ?_)|refine Adg ?_|(refine Tx 3 ?_;refine gO xF <| gO xD <| gO xN <| gO xM ?_))
 refine AJ (Be 2) (Al (fun n Fr H=>∃ k:Nat,k≤r.ws.length∧n=r.ws.length - k∧r.ws.take k=s.ws.take k∧Fr=ofL [(2,vr 0),(3,vr 1),(29,vi r.ws.length),(30,vi ((k:Nat)))]∧H=[.box 43 ((dRv t r).map C.d),.box 43 ((dRv u s).map C.d)]) (n0:=r.ws.length) ⟨0,ad _,rfl,rfl,rfl,rfl⟩ ?_)
 rintro n Fr H ⟨k,hk,rfl,he,rfl,rfl⟩
 by_cases hlt:k<r.ws.length
 case pos =>
  obtain ⟨p,hp⟩:∃ p,r.ws[k]?=some p:=⟨_,gE hlt⟩
  obtain ⟨q,hq⟩:∃ q,s.ws[k]?=some q:=⟨_,gE (by omega)⟩
  by_cases e:p=q
  case neg =>
   repeat' (with_reducible first|refine qq ?_|(refine Tx 4 ?_;refine gO xLt ?_)|refine Aib ?_|(refine Tx 7 ?_;refine gO xA ?_))
   exact Au rfl (.cons_ (Db rfl (by unfold Uu;rw [decide_eq_false (fun h=>Api hp hq e h.2.2)])) .nil_)
  subst e
  repeat' (with_reducible first|refine qq ?_|(refine Tx 4 ?_;refine gO xLt ?_)|refine Aib ?_|(refine Tx 8 ?_;refine gO xAd <| gO xM ?_))
  refine ⟨_,_,Be 2,_,by omega,k+1,by omega,rfl,XY he hp hq,rfl,rfl⟩
 obtain rfl:k=r.ws.length:=by omega
 clear hlt hk
 rw [aq,hl,aq] at he
 repeat' (with_reducible first|refine qq ?_|(refine Tx 4 ?_;refine gO xLt ?_)|(refine Tx 9 ?_;refine gO xA ?_))
 exact Au rfl (.cons_ (Db rfl (by unfold Uu;rw [decide_eq_true ⟨hb,hd,he⟩])) .nil_)
theorem GH (t u:Bool) (p q:Int × Nat) (l1:(Ac p.1.natAbs).length≤1000000) (l2:(Ac q.1.natAbs).length≤1000000):CV prog Ah 99 [aDy t p.1 p.2,aDy u q.1 q.2] [aB (decide (p=q))]:=by
 have:=Adh t u (DU p) (DU q) l1 l2
 rw [Aph] at this
 unfold aRv at this
 rwa [Fo,Fo] at this
theorem Aic {l:List (Int × Nat)} {k:Nat} {p:Int × Nat} (h:l[k]?=some p):((An (fun p=>dDy t p.1 p.2) l).drop (k*3)).take 3=dDy t p.1 p.2:=FE (f:=fun p=>dDy t p.1 p.2) (s:=3) (fun _=>rfl) h
def Apk (l:List (Int × Nat)):Prop:=∀ p∈l,(Ac p.1.natAbs).length≤1000000
theorem Apl (h:p:=by first|exact xIr Ag (Aic hp)|exact xIr Ag (Aic hq)):p:=h
theorem Aid (k:p') (h:Hd9 p'→p:=by with_reducible first|(intro Z9;refine Tx 5 ?_;refine gO xM <| gO xA ?_;exact Z9.o)|(intro Z9;refine Bl (id:=6) AC (by kernel_rfl) ?_;refine gP xM <| gP xM <| gP Apl <| gP xL <| gP xM <| gP xM <| gP Apl <| gP xL <| gP (xCl func99 (SM)) <| gP Uq ?_;refine Ke ?_;exact Z9.o)|fail):p:=h ⟨k⟩
theorem XZ (t u:Bool) (l m:List (Int × Nat)) (h1:Apk l) (h2:Apk m) (n1:l.length≤1000000) (n2:m.length≤1000000):CV prog Ah 46 [.one (.row t 3 l.length (An (fun p=>dDy t p.1 p.2) l)),.one (.row u 3 m.length (An (fun p=>dDy u p.1 p.2) m))] [aB (decide (l=m))]:=by
 refine cvz func46 ntmps46 ?_
 by_cases hn:l.length=m.length
 case neg =>
  repeat' (with_reducible first|refine qq ?_|(refine Tx 0 ?_;refine gO xA ?_)|(refine Tx 1 ?_;refine gO xM <| gO xN <| gO xM <| gO xN <| gO xNe ?_)|(refine Tx 2 ?_;refine gO xA ?_))
  exact Au rfl (.cons_ (Db rfl (decide_eq_false (fun h=>hn (by rw [h]))|>.symm)) .nil_)
 repeat' (with_reducible first|refine qq ?_|(refine Tx 0 ?_;refine gO xA ?_)|(refine Tx 1 ?_;refine gO xM <| gO xN <| gO xM <| gO xN <| gO xNe ?_)|(refine Tx 3 ?_;refine gO xM <| gO xN <| gO xM ?_))
 refine AJ (Be 0) (Al (fun n Fr H=>∃ k:Nat,k≤l.length∧n=l.length - k∧l.take k=m.take k∧Fr=ofL [(0,vd (.row t 3 l.length (An (fun p=>dDy t p.1 p.2) l))),(1,vd (.row u 3 m.length (An (fun p=>dDy u p.1 p.2) m))),(12,vi l.length),(13,vi ((k:Nat)))]∧H=[]) (n0:=l.length) ⟨0,ad _,rfl,rfl,rfl,rfl⟩ ?_)
 rintro n Fr H ⟨k,hk,rfl,he,rfl,rfl⟩
 by_cases hlt:k<l.length
 case pos =>
  obtain ⟨p,hp⟩:∃ p,l[k]?=some p:=⟨_,gE hlt⟩
  obtain ⟨q,hq⟩:∃ q,m[k]?=some q:=⟨_,gE (by omega)⟩
  have SM:=GH t u p q (h1 p (gM hp)) (h2 q (gM hq))
  by_cases e:p=q
  case neg =>
   rw [decide_eq_false e] at SM
   repeat' (with_reducible first|refine qq ?_|(refine Tx 4 ?_;refine gO xLt ?_)|refine Aid ?_|(refine Tx 7 ?_;refine gO xA ?_))
   exact Au rfl (.cons_ (Db rfl (decide_eq_false (fun h=>Api hp hq e h)|>.symm)) .nil_)
  rw [decide_eq_true e] at SM
  subst e
  repeat' (with_reducible first|refine qq ?_|(refine Tx 4 ?_;refine gO xLt ?_)|refine Aid ?_|(refine Tx 8 ?_;refine gO xAd <| gO xM ?_))
  refine ⟨_,_,Be 0,_,by omega,k+1,by omega,rfl,XY he hp hq,rfl,rfl⟩
 obtain rfl:k=l.length:=by omega
 clear hlt hk
 rw [aq,hn,aq] at he
 repeat' (with_reducible first|refine qq ?_|(refine Tx 4 ?_;refine gO xLt ?_)|(refine Tx 9 ?_;refine gO xA ?_))
 exact Au rfl (.cons_ (Db rfl (decide_eq_true he|>.symm)) .nil_)
theorem Adi (t:Bool) {ps:List Prt} {bs:List Bk} {os:List Int} (hl:Dx ps bs os) (h0:AY ps bs os=0):CV prog Ah 100 [aDg t ps bs os] [AmK (BB bs)]:=by
 refine cvz func100 ntmps100 ?_
 have DL:=(Iy t hl (ps:=ps) (bs:=bs) (os:=os)).cv
 have hnl:=BP (AX bs)
 repeat' (with_reducible first|refine qq ?_|(refine Tx 0 ?_;refine gN xBo <| gO xA ?_)|(refine Tx 1 ?_;refine gO xA ?_))
 refine AJ (Fh 3 43 3 rfl) ?_
 repeat' (with_reducible first|refine qq ?_|(refine Tx 2 ?_;refine gO xL <| gO (xCl func44 (DL)) <| gO xN <| gO xM ?_))
 have hl2:=hl.l2
 have hdb:=Fp bs
 have hsl:(BB bs).length=(AX bs).length:=(Iw h0).len
 refine AJ (Be 2) (Al (fun n Fr H=>∃ k:Nat,k≤(AX bs).length∧n=(AX bs).length - k∧Fr=ofL [(1,vr 0),(3,vo 1 (((BB bs).take k).length)),(7,vd (AU false (BU (AX bs)))),(8,vi ((BU (AX bs)).length)),(9,vi ((k:Nat)))]∧H=[.box 26 [.d (CY t ps),.d (Cw t bs),.d (AU t os)],.row 43 3 ((BB bs).take (k)).length ((An dyP ((BB bs).take (k))).map C.d)]) (n0:=(AX bs).length) ⟨0,ad _,rfl,rfl,rfl⟩ ?_)
 rintro n Fr H ⟨k,hk,rfl,rfl,rfl⟩
 by_cases hlt:k<(AX bs).length
 case pos =>
  obtain ⟨i,hi⟩:∃ i,(AX bs)[k]?=some i:=⟨_,gE hlt⟩
  have hid:=Hv hi
  have hil:=hid.1
  obtain ⟨y,hy⟩:∃ y,bs[i]?=some y:=⟨_,gE hil⟩
  have hk2:=hid.2
  rw [Hu hy] at hk2
  have hsc:=Ps h0 hy (by unfold Pd;rw [hk2];rfl)
  obtain ⟨s1,s2,s3,s4⟩:=hsc
  have NU:=(EF (G:=Ah) y.vn y.ve (by omega) (by omega)).cv
  obtain ⟨hap,hap2,hoL⟩:=Mr (XW hi hy)
  repeat' (with_reducible first|refine qq ?_|(refine Tx 3 ?_;refine gO xLt ?_)|(refine Tx 4 ?_;refine gO (xIr Ae (Ay (LH hi))) <| gO xD <| gO xA ?_)|(refine Tx 5 ?_;refine gO xM <| gO xF <| gO xD <| gO xM <| gO (xIr Ak (Dq hy)) <| gO xF <| gO xL <| gO (xCl func173 (NU)) <| gN (by exact BH rfl Ag Aj rfl rfl (by decide) (by decide)) <| gT (by exact Mj rfl rfl rfl rfl rfl rfl Ag Aj (by omega) (by decide) (by decide) rfl hap hap2) <| gO xA ?_)|(refine Tx 6 ?_;refine gO xAd <| gO xM ?_))
  exact AhX
 obtain rfl:k=(AX bs).length:=by omega
 clear hlt hk
 rw [←hsl,aq]
 unfold AmK
 repeat' (with_reducible first|refine qq ?_|(refine Tx 3 ?_;refine gO xLt ?_)|(refine Tx 7 ?_;refine gO xM <| gO xA ?_))
 exact Au rfl (.cons_ (.tmp (.one (AcK rfl rfl rfl))) .nil_)
theorem Adj (k:p') (h:Hd9 p'→p:=by with_reducible first|(intro Z9;refine qq ?_;exact Z9.o)|(intro Z9;refine Tx 0 ?_;refine gN xBo <| gO xA ?_;exact Z9.o)|(intro Z9;refine Tx 1 ?_;refine gO xL <| gO (xCl func71 (PX)) <| gO xMt <| gO xEx <| gO xEx <| gO xEx <| gO xA <| gO xA <| gO xA ?_;exact Z9.o)|(intro Z9;refine Tx 2 ?_;refine gO xM <| gO xN <| gO xEq <| gO xA ?_;exact Z9.o)|fail):p:=h ⟨k⟩
theorem Ms (x:Int) (dx:Nat) (hnx:Nf x dx) (lx:(Ac x.natAbs).length≤40000):CV prog Ah 28 [aDy false x dx] [aI (sgI x)]:=by
 refine cvz func28 ntmps28 ?_
 have PX:=FH (G:=Ah) x dx hnx (lT lx (by decide))
 by_cases c0:x=0
 case pos =>
  have l0:((Ac x.natAbs).length:Int)=0:=by rw [show x.natAbs=0 by omega,AK];rfl
  rw [show decide (x<0)=false by rw [decide_eq_false (by omega)]] at PX
  rw [show sgI x=0 by unfold sgI;(repeat' split) <;> omega]
  repeat' (with_reducible first|refine Adj ?_|(refine Tx 3 ?_;refine gO xA ?_))
  exact QY
 by_cases cm1:x<0
 case pos =>
  have l0:¬ ((Ac x.natAbs).length:Int)=0:=fun hc=>by have:=Cy (n:=x.natAbs) (by omega);omega
  rw [show decide (x<0)=true by rw [decide_eq_true (by omega)]] at PX
  rw [show sgI x = -1 by unfold sgI;(repeat' split) <;> omega]
  repeat' (with_reducible first|refine Adj ?_|(refine Tx 4 ?_;refine gO xM <| gO xA ?_)|(refine Tx 5 ?_;refine gO xA ?_))
  exact QY
 have l0:¬ ((Ac x.natAbs).length:Int)=0:=fun hc=>by have:=Cy (n:=x.natAbs) (by omega);omega
 rw [show decide (x<0)=false by rw [decide_eq_false (by omega)]] at PX
 rw [show sgI x=1 by unfold sgI;(repeat' split) <;> omega]
 repeat' (with_reducible first|refine Adj ?_|(refine Tx 4 ?_;refine gO xM <| gO xA ?_)|(refine Tx 6 ?_;refine gO xA ?_))
 exact QY
theorem Rc (x:Int) (d den:Nat) (hn:Nf x d) (hl:(Ac x.natAbs).length≤40000) (hd:den≤65536):CVF prog Ah 122 [aDy false x d,aI (den:Int)] [aDy false (Bo x d den).1 (Bo x d den).2,aE 0]:=fun w S vs hg hlt ha=>by
 obtain ⟨v,vs',rfl,h1,ha⟩:=ha.uncons
 obtain ⟨u,hu,h2⟩:=BM ha
 subst hu
 cases h2
 exact (Qy (Hd h1 hlt hn) (aa _) (lT hl (by decide)) hd hg).mono fun r w' ⟨v,he,hd,hb⟩=>⟨_,he,Na (FG hd) (Bx.val rfl),hb⟩
theorem Ya {x:Int} {d:Nat} (hn:Nf x d) (hd:den≤65536):Nf (Bo x d den).1 (Bo x d den).2:=by
 unfold Bo
 split
 ·exact hn
 ·exact Nf.nf hd
theorem Uv {x:Int} {k:Nat}:(x / 2 ^ k).natAbs≤x.natAbs:=by
 have h1:=Int.mul_ediv_add_emod x (2 ^ k)
 have h2:=Int.emod_nonneg x (AcN k)
 have h3:=Int.emod_lt_of_pos x (Bf k)
 have hp:=Bf k
 generalize (2:Int) ^ k=P at *
 generalize hq:x / P=q at *
 rcases Int.lt_or_le q 0 with hlt|hge
 ·have:P*q≤q:=by
   have:=Int.mul_le_mul_of_nonpos_right (show (1:Int)≤P by omega) (bg hlt)
   omega
  rcases Int.lt_or_le x 0 with hx|hx
  ·by_cases hP:P=1
   ·subst hP;omega
   ·have h4:2*(-q)≤P*(-q):=eh (by omega) (by omega)
    rw [Int.mul_neg] at h4
    by_cases hq1:q = -1
    ·subst hq1;omega
    ·have h5:P*(-q - 1) ≥ 1*(-q - 1):=eh (by omega) (by omega)
     rw [Int.mul_sub,Int.mul_neg] at h5
     omega
  ·exfalso
   have:0≤q:=by rw [←hq];exact Int.ediv_nonneg hx (by omega)
   omega
 ·have:1*q≤P*q:=eh (by omega) hge
  omega
theorem PB {x:Int} {d k:Nat} (hl:(Ac x.natAbs).length≤k):(Ac (Bo x d den).1.natAbs).length≤k:=by
 unfold Bo
 split
 ·exact hl
 ·exact lT (AQ (lT (He _ _) Uv)) hl
theorem Apm (h:p:=by first|exact xCl func83 (NG)|exact xCl func83 (NH)):p:=h
theorem Uw (x:Int) (d den:Nat) (hn:Nf x d) (hl:(Ac x.natAbs).length≤40000) (hd:den≤65536):CV prog Ah 169 [aDy false x d,aI (den:Int)] [aDy false (ZR (x,d) den).1 (ZR (x,d) den).2,aE 0]:=by
 refine cvz func169 ntmps169 ?_
 have NG:=GA x d hn hl
 have hnn:Nf (-x) d:=⟨hn.1,fun h=>by have:=hn.2 h;omega⟩
 have FL:=(Rc (-x) d den hnn (by rw [jb];exact hl) hd).cv
 have NH:=GA (Bo (-x) d den).1 (Bo (-x) d den).2 (Ya hnn hd) (PB (by rw [jb];exact hl))
 repeat' (with_reducible first|refine qq ?_|(refine Tx 0 ?_;refine gN xBo <| gN (xAl Aj) <| gO xA ?_)|(refine Tx 1 ?_;refine gO xL <| gO Apm <| gO xM <| gO (xCl func122 (FL)) <| gO xMt <| gO (by exact CQ rfl rfl rfl) <| gO xEx <| gN (xAl Aj) <| gZ (xSk Aa) <| gO xA ?_)|(refine Tx 2 ?_;refine gO xL <| gO Apm <| gO xM <| gZ (xSk Aa) <| gO xA ?_))
 exact Au rfl (.cons_ (rvW Aa rfl) (.cons_ (Hc rfl rfl) .nil_))
def ivR (r s:Rv):Bool:=vdB r.rw && vdB s.rw && decide (Bm r.rw.x r.rw.d s.rw.x s.rw.d≤0)
def RvL (r:Rv):Prop:=Av r.ws∧r.ws.length≤40000
def dIr (t:Bool) (a:Rv × Rv):List D:=dRv t a.1++dRv t a.2
theorem Aie (k:p') (h:Hd9 p'→p:=by with_reducible first|(intro Z9;refine Tx 1 ?_;refine gO xF <| gO xL <| gO (xCl func58 (V1)) <| gO xM ?_;(first|iterate 3 refine Jd ?_|(refine Jy (xFa AI Aa) ?_;refine Jy (xLa Aa) ?_;refine Jy (xCl func58 (V2)) ?_));refine gO xPk <| gO xM ?_;(first|iterate 6 refine Jd ?_|(refine Jy (xFa CO Aa) ?_;refine Jy (xLa Aa) ?_;refine Jy (xFa AI Aa) ?_;refine Jy (xLa Aa) ?_;refine Jy (xCl func9 (CM)) ?_;refine Jy xLe ?_));refine gO xPk <| gO xA ?_;exact Z9.o)|fail):p:=h ⟨k⟩
theorem Iz (r s:Rv) (hr:RvL r) (hs:RvL s):CV prog Ah 57 [.agg (dIr false (r,s))] [aB (ivR r s)]:=by
 refine cvz func57 ntmps57 ?_
 have V1:=(Pr (G:=Ah) false r hr.1 (lT hr.2 (by decide))).cv
 have V2:=(Pr (G:=Ah) false s hs.1 (lT hs.2 (by decide))).cv
 by_cases c1:vdB r.rw=true
 case neg =>
  rw [ay] at c1
  rw [c1] at V1
  repeat' (with_reducible first|refine qq ?_|(refine Tx 0 ?_;refine gN xBo <| gO xA ?_)|(refine Tx 1 ?_;refine gO xF <| gO xL <| gO (xCl func58 (V1)) <| gO xM ?_;(first|iterate 3 refine Jd ?_|(refine Jy (xFa AI Aa) ?_;refine Jy (xLa Aa) ?_;refine Jy (xCl func58 (V1)) ?_));refine gO xPk <| gO xM ?_;(first|iterate 4 refine Jd ?_|(refine Jy (xFa CO Aa) ?_;refine Jy (xLa Aa) ?_;refine Jy (xFa AI Aa) ?_;refine Jy (xLa Aa) ?_));refine Jd ?_;(first|refine Jd ?_|refine Jy xLe ?_);refine gO xPk <| gO xA ?_))
  exact Au rfl (.cons_ (Db rfl (by unfold ivR;rw [c1];rfl)) .nil_)
 by_cases c2:vdB s.rw=true
 case neg =>
  rw [ay] at c2
  rw [c1] at V1
  rw [c2] at V2
  repeat' (with_reducible first|refine qq ?_|(refine Tx 0 ?_;refine gN xBo <| gO xA ?_)|(refine Tx 1 ?_;refine gO xF <| gO xL <| gO (xCl func58 (V1)) <| gO xM ?_;(first|iterate 3 refine Jd ?_|(refine Jy (xFa AI Aa) ?_;refine Jy (xLa Aa) ?_;refine Jy (xCl func58 (V2)) ?_));refine gO xPk <| gO xM ?_;(first|iterate 4 refine Jd ?_|(refine Jy (xFa CO Aa) ?_;refine Jy (xLa Aa) ?_;refine Jy (xFa AI Aa) ?_;refine Jy (xLa Aa) ?_));refine Jd ?_;(first|refine Jd ?_|refine Jy xLe ?_);refine gO xPk <| gO xA ?_))
  exact Au rfl (.cons_ (Db rfl (by unfold ivR;rw [c1,c2];rfl)) .nil_)
 rw [c1] at V1
 rw [c2] at V2
 obtain ⟨e1,n1,k1⟩:=Wg (t:=false) hr.1 c1
 obtain ⟨e2,n2,k2⟩:=Wg (t:=false) hs.1 c2
 have CM:=Ck r.rw.x r.rw.d s.rw.x s.rw.d n1 n2 (lT (gz k1) hr.2) (lT (gz k2) hs.2)
 unfold aDy at CM
 rw [←e1,←e2] at CM
 by_cases c3:Bm r.rw.x r.rw.d s.rw.x s.rw.d≤0
 case pos =>
  repeat' (with_reducible first|refine qq ?_|(refine Tx 0 ?_;refine gN xBo <| gO xA ?_)|refine Aie ?_)
  exact Au rfl (.cons_ (Db rfl (by unfold ivR;rw [c1,c2,decide_eq_true c3];rfl)) .nil_)
 case neg =>
  repeat' (with_reducible first|refine qq ?_|(refine Tx 0 ?_;refine gN xBo <| gO xA ?_)|refine Aie ?_)
  exact Au rfl (.cons_ (Db rfl (by unfold ivR;rw [c1,c2,decide_eq_false c3];rfl)) .nil_)
theorem Gi {p:Pq} {d:Nat} (h:Sm p n d) (hn:n≤1280000):RvL (DU p):=⟨AE _,h.lenN 40000 (by omega)⟩
theorem ZU {a:Iq} {d:Nat} (h:IwS a n d):ivR (DU a.1) (DU a.2)=true:=by
 unfold ivR
 rw [Wo h.s1.ok,Wo h.s2.ok]
 have:Bm (DU a.1).rw.x (DU a.1).rw.d (DU a.2).rw.x (DU a.2).rw.d=Gf (rvP (DU a.1)) (rvP (DU a.2)):=rfl
 rw [GP,GP] at this
 rw [this,decide_eq_true ((Hx h.s1.le h.s2.le).2 h.le)]
 rfl
theorem ZV (a:Iq) {n d:Nat} (h:IwS a n d) (hn:n≤1280000):CV prog Ah 57 [aIw false a] [aB true]:=by
 have:=Iz (DU a.1) (DU a.2) (Gi h.s1 hn) (Gi h.s2 hn)
 rw [ZU h] at this
 unfold dIr at this
 rwa [Fo,Fo] at this
theorem PC (x:Int) (d:Nat) (hn:Nf x d) (hl:(Ac x.natAbs).length≤40000):CV prog Ah 166 [aDy false x d] [aDy false x d]:=by
 refine cvz func166 ntmps166 ?_
 have SH:=BW x d 0 hn (lT hl (by decide)) (by have:=hn.1;omega)
 rw [Ge hn] at SH
 repeat' (with_reducible first|refine qq ?_|(refine Tx 0 ?_;refine gN xBo <| gN (xAl Aj) ?_)|(refine Tx 1 ?_;refine gO xL <| gO (xCl func27 (SH)) <| gZ (xSk Aa) ?_))
 exact Au rfl (.cons_ (rvW Aa rfl) .nil_)
theorem FJ (h:p:=by
 exact Au rfl (.cons_ (rvJ Ab rfl) .nil_)):p:=h
theorem Apn (h:p:=by first|exact xCl func166 (S1)|exact xCl func166 (S2)):p:=h
theorem Agz (a:Iq) {n d:Nat} (h:IwS a n d) (hn:n≤1280000) (l1:(Ac a.1.1.natAbs).length≤40000) (l2:(Ac a.2.1.natAbs).length≤40000):CV prog Ah 168 [aIw false a] [aIw false a]:=by
 refine cvz func168 ntmps168 ?_
 have V:=ZV a h hn
 have S1:=PC a.1.1 a.1.2 h.s1.ok l1
 have S2:=PC a.2.1 a.2.2 h.s2.ok l2
 repeat' (with_reducible first|refine qq ?_|(refine Tx 0 ?_;refine gN xBo <| gN (xAl Ai) ?_)|(refine Tx 1 ?_;refine gO xL <| gO (xCl func57 (V)) <| gO Uq ?_)|(refine Ax (id:=3) 7 AC (by kernel_rfl) ?_;dsimp only [List.take,List.drop];refine gP xF <| gP xL <| gP Apn <| gP xF <| gP xL <| gP Apn <| gP (by exact AF rfl BR rfl rfl) ?_;refine Ke ?_;refine gZ (xSk Ab) ?_))
 exact FJ
theorem DJ (a:Iq) (h:IwS a 20000 20000):CV prog Ah 168 [aIw false a] [aIw false a]:=Agz a h (by decide) h.s1.lz h.s2.lz
theorem DQ (p:Pq) (hn:Nf p.1 p.2) (hl:(Ac p.1.natAbs).length≤40000):CV prog Ah 79 [aDy false p.1 p.2] [aIw false (p,p)]:=by
 refine cvz func79 ntmps79 ?_
 have S1:=PC p.1 p.2 hn hl
 repeat' (with_reducible first|refine qq ?_|(refine Tx 0 ?_;refine gN xBo <| gN (xAl Ai) ?_)|(refine Ax (id:=1) 5 AC (by kernel_rfl) ?_;dsimp only [List.take,List.drop];refine gP xL <| gP (xCl func166 (S1)) <| gP xL <| gP (xCl func166 (S1)) <| gP (by exact AF rfl BR rfl rfl) ?_;refine Ke ?_;refine gZ (xSk Ab) ?_))
 exact FJ
theorem Yb {l:List Pq} {k:Nat} {p:Pq} (h:l[k]?=some p):((An dyP l).drop (k*3)).take 3=dyP p:=AfX h
theorem Ux {G:World→Prop} {o:Oper} {t e:TypeId} {x l:Operand} {tg:Bool} {s lo:Nat} {k:IntKind} {z:Int} {cs:List D} (ho:o.op=.slice t x (some l) none none) (hx:F.ev x=.one (.d (.row tg s n cs))) (hl:F.ev l=.one (.d (.val (.int k z)))) (hz:z=(lo:Int)) (ht:TyS P t e s) (h1:lo≤n):AZ P G o F H (.one (.d (.row tg s (n - lo) (cs.drop (lo*s))))) []:=Acx ho hx hl hz ht h1
theorem Mt (t:Bool) (L:List Pq) (hne:L≠[]) (hs:∀ p∈L,Sm p 40064 40000) (hL:L.length≤100):CV prog Ah 170 [.one (.row t 3 L.length (An dyP L))] [aIw false (CI L)]:=by
 refine cvz func170 ntmps170 ?_
 obtain ⟨p,l,rfl⟩:∃ p l,L=p::l:=by cases L with|nil=>exact absurd rfl hne|cons p l=>exact ⟨p,l,rfl⟩
 have hp:=hs p (ig ..)
 have hpl:=lT (hp.lenN 1252 (by decide)) (show 1252≤40000 by decide)
 have PT:=DQ p hp.ok hpl
 have hlen:(p::l).length=l.length+1:=bw
 repeat' (with_reducible first|refine qq ?_|(refine Tx 0 ?_;refine gN (xAl Ai) ?_)|(refine Tx 1 ?_;refine gO xM <| gO (by exact DG (i:=0) rfl rfl rfl rfl Ag (by omega) (by decide) (Yb (l:=p::l) (k:=0) rfl)) <| gO xL <| gO (xCl func79 (PT)) <| gN (xAl Ai) <| gZ (xSk Ab) ?_)|(refine Tx 2 ?_;refine gO xM <| gO (by exact Ux (lo:=1) rfl rfl rfl rfl Ag (by omega)) <| gO xN <| gO xM ?_))
 refine AJ (Be 2) (Al (fun n Fr H=>∃ k:Nat,k≤l.length∧n=l.length - k∧IwS ((l.take (k)).foldl Hy (p,p)) 40064 40000∧Fr=ofL [(2,vr 0),(3,vr 1),(11,vd (.row t 3 ((p::l).length - 1) ((An dyP (p::l)).drop (1*3)))),(12,vi (((p::l).length - 1:Nat))),(13,vi ((k:Nat)))]∧H=[.box 45 [.d (.val (.bool false)),.d (.val (.slice none 0 0)),.d (.val (.int .i64 0)),.d (.val (.bool false)),.d (.val (.slice none 0 0)),.d (.val (.int .i64 0))],.box 45 ((dIw false ((l.take (k)).foldl Hy (p,p))).map C.d)]) (n0:=l.length) ⟨0,ad _,rfl,.pt hp,rfl,rfl⟩ ?_)
 rintro n Fr H ⟨k,hk,rfl,hS,rfl,rfl⟩
 by_cases hlt:k<l.length
 case pos =>
  obtain ⟨x,hx⟩:∃ x,l[k]?=some x:=⟨_,gE hlt⟩
  have hxs:=hs x (gd _ (gM hx))
  have hxl:=lT (hxs.lenN 1252 (by decide)) (show 1252≤40000 by decide)
  have a1:=hS.s1
  have a2:=hS.s2
  have a1l:=lT (a1.lenN 1252 (by decide)) (show 1252≤40000 by decide)
  have a2l:=lT (a2.lenN 1252 (by decide)) (show 1252≤40000 by decide)
  have hnx:Hy ((l.take (k)).foldl Hy (p,p)) x=((l.take (k+1)).foldl Hy (p,p)):=by rw [bh,hx,fp,li];rfl
  have hIS:IwS (Hy ((l.take (k)).foldl Hy (p,p)) x) 40064 40000:=⟨Sm.min a1 hxs,Sm.max a2 hxs,by show gv (Qk _ x)≤gv (GG _ x);rw [GM a1.le hxs.le,EJ a2.le hxs.le];have:=hS.le;omega⟩
  rw [hnx] at hIS
  have hxd:(((An dyP (p::l)).drop (1*3)).drop (k*3)).take 3=dyP x:=by rw [jg,show 1*3+k*3=(k+1)*3 by omega];exact Yb (l:=p::l) (k:=k+1) (by rw [fi];exact hx)
  generalize hT:((l.take (k)).foldl Hy (p,p))=T at *
  have MN:=Si T.1.1 T.1.2 x.1 x.2 a1.ok hxs.ok a1l hxl
  have MX:=FI T.2.1 T.2.2 x.1 x.2 a2.ok hxs.ok a2l hxl
  repeat' (with_reducible first|refine qq ?_|(refine Tx 3 ?_;refine gO xLt ?_)|(refine Tx 4 ?_;refine gO (xIr Ag (hxd)) <| gO xL <| gN (xAl Aj) <| gZ (xSk Aa) ?_)|(refine Ax (id:=5) 9 AC (by kernel_rfl) ?_;dsimp only [List.take,List.drop];refine gP xF <| gP xL <| gP xL <| gP (xCl func158 (MN)) <| gP xF <| gP xL <| gP xL <| gP (xCl func91 (MX)) <| gP xF ?_;refine Ke ?_;refine gZ (xSk Aa) <| gO xF <| gZ (xSk Aa) ?_)|(refine Tx 6 ?_;refine gO xAd <| gO xM ?_))
  refine ⟨_,_,Be 2 (hH:=by rw [←hnx];rfl),_,?_,k+1,by omega,rfl,hIS,rfl,rfl⟩
  ·omega
 obtain rfl:k=l.length:=by omega
 clear hlt hk
 rw [aq]
 repeat' (with_reducible first|refine qq ?_|(refine Tx 3 ?_;refine gO xLt ?_)|(refine Tx 7 ?_;refine gO xL <| gZ (xSk Ab) ?_))
 exact FJ
theorem LI (x:Int) {n d:Nat} (h:x.natAbs<2 ^ 63) (hn:63≤n):Sm (x,0) n d:=⟨⟨ad _,fun h=>absurd rfl h⟩,al h (au (by decide) hn),ad _⟩
theorem Yc (x:Int) (h:x.natAbs<2 ^ 63):Sm (x,0) 40064 40000:=LI x h (by decide)
theorem Apo (h:p:=by first|exact xCl func123 (O1)|exact xCl func123 (O2)):p:=h
theorem Uy (x y:Int) (hx : -9223372036854775807≤x∧x<9223372036854775808) (hy : -9223372036854775807≤y∧y<9223372036854775808):CV prog Ah 133 [aI x,aI y] [aIw false (CI [(x,0),(y,0)])]:=by
 refine cvz func133 ntmps133 ?_
 have O1:=FS x (by omega) (by omega)
 have O2:=FS y (by omega) (by omega)
 have s1:Sm (x,0) 40064 40000:=Yc x (by omega)
 have s2:Sm (y,0) 40064 40000:=Yc y (by omega)
 have SP:=Mt true [(x,0),(y,0)] (by simp) (fun p hp=>by simp only [cr,ct,or_false] at hp;rcases hp with rfl|rfl <;> assumption) (ax rfl)
 repeat' (with_reducible first|refine qq ?_|(refine Tx 0 ?_;refine gN (xAl Ai) ?_)|(refine Tx 1 ?_;refine gO xM <| gO Apo <| gO xM <| gO Apo <| gN (by exact Fj rfl Ag Aj rfl rfl rfl rfl (by decide) (by decide)) <| gO (xCl func170 (SP)) <| gZ (xSk Ab) ?_))
 exact FJ
theorem App (h:p:=by first|exact xCl func83 (N2)|exact xCl func83 (N1)):p:=h
theorem Ss (a:Iq) (h:IwS a 20000 20000):CV prog Ah 139 [aIw false a] [aIw false (ZS a)]:=by
 refine cvz func139 ntmps139 ?_
 have h1:=h.s1
 have h2:=h.s2
 have hl:=h1.l4
 have hm:=h2.l4
 have AR:=DJ a h
 have N1:=GA a.1.1 a.1.2 h1.ok hl
 have N2:=GA a.2.1 a.2.2 h2.ok hm
 repeat' (with_reducible first|refine qq ?_|(refine Tx 0 ?_;refine gN xBo <| gN (xAl Ai) ?_)|(refine Tx 1 ?_;refine gO xL <| gO (xCl func168 (AR)) <| gZ (xSk Ab) ?_)|(refine Ax (id:=2) 7 AC (by kernel_rfl) ?_;dsimp only [List.take,List.drop];refine gP xF <| gP xL <| gP App <| gP xF <| gP xL <| gP App <| gP (by exact AF rfl BR rfl rfl) ?_;refine Ke ?_;refine gZ (xSk Ab) ?_))
 exact FJ
theorem NP (h:p:=by first|exact xCl func168 (AA)|exact xCl func168 (AB)):p:=h
theorem Apq (h:p:=by first|exact xCl func146 (C1)|exact xCl func146 (C2)):p:=h
theorem Su (a b:Iq) (h:IwS a 20000 20000) (k:IwS b 20000 20000):CV prog Ah 136 [aIw false a,aIw false b] [aIw false (Aav a b)]:=by
 refine cvz func136 ntmps136 ?_
 have h1:=h.s1
 have h2:=h.s2
 have hl:=h1.l4
 have hm:=h2.l4
 have k1:=k.s1
 have k2:=k.s2
 have kl:=k1.l4
 have km:=k2.l4
 have AA:=DJ a h
 have AB:=DJ b k
 have C1:=Eg a.1.1 a.1.2 b.1.1 b.1.2 h1.ok k1.ok hl kl
 have C2:=Eg a.2.1 a.2.2 b.2.1 b.2.2 h2.ok k2.ok hm km
 repeat' (with_reducible first|refine qq ?_|(refine Tx 0 ?_;refine gN xBo <| gN xBo <| gN (xAl Ai) ?_)|(refine Ax (id:=1) 4 AC (by kernel_rfl) ?_;dsimp only [List.take,List.drop];refine gP xL <| gP NP <| gP xL <| gP NP ?_;refine Ke ?_;refine gZ (xSk Ab) <| gZ (xSk Ab) ?_)|(refine Ax (id:=2) 11 AC (by kernel_rfl) ?_;dsimp only [List.take,List.drop];refine gP xF <| gP xL <| gP xF <| gP xL <| gP Apq <| gP xF <| gP xL <| gP xF <| gP xL <| gP Apq <| gP (by exact AF rfl BR rfl rfl) ?_;refine Ke ?_;refine gZ (xSk Ab) ?_))
 exact FJ
theorem Apr (h:p:=by first|exact xCl func158 (C1)|exact xCl func158 (C2)):p:=h
theorem Sv (a b:Iq) (h:IwS a 20000 20000) (k:IwS b 20000 20000):CV prog Ah 141 [aIw false a,aIw false b] [aIw false (Aaw a b)]:=by
 refine cvz func141 ntmps141 ?_
 have h1:=h.s1
 have h2:=h.s2
 have hl:=h1.l4
 have hm:=h2.l4
 have k1:=k.s1
 have k2:=k.s2
 have kl:=k1.l4
 have km:=k2.l4
 have AA:=DJ a h
 have AB:=DJ b k
 have C1:=Si a.1.1 a.1.2 b.1.1 b.1.2 h1.ok k1.ok hl kl
 have C2:=Si a.2.1 a.2.2 b.2.1 b.2.2 h2.ok k2.ok hm km
 repeat' (with_reducible first|refine qq ?_|(refine Tx 0 ?_;refine gN xBo <| gN xBo <| gN (xAl Ai) ?_)|(refine Ax (id:=1) 4 AC (by kernel_rfl) ?_;dsimp only [List.take,List.drop];refine gP xL <| gP NP <| gP xL <| gP NP ?_;refine Ke ?_;refine gZ (xSk Ab) <| gZ (xSk Ab) ?_)|(refine Ax (id:=2) 11 AC (by kernel_rfl) ?_;dsimp only [List.take,List.drop];refine gP xF <| gP xL <| gP xF <| gP xL <| gP Apr <| gP xF <| gP xL <| gP xF <| gP xL <| gP Apr <| gP (by exact AF rfl BR rfl rfl) ?_;refine Ke ?_;refine gZ (xSk Ab) ?_))
 exact FJ
theorem Aps (h:p:=by first|exact xCl func91 (C1)|exact xCl func91 (C2)):p:=h
theorem Sw (a b:Iq) (h:IwS a 20000 20000) (k:IwS b 20000 20000):CV prog Ah 142 [aIw false a,aIw false b] [aIw false (Aax a b)]:=by
 refine cvz func142 ntmps142 ?_
 have h1:=h.s1
 have h2:=h.s2
 have hl:=h1.l4
 have hm:=h2.l4
 have k1:=k.s1
 have k2:=k.s2
 have kl:=k1.l4
 have km:=k2.l4
 have AA:=DJ a h
 have AB:=DJ b k
 have C1:=FI a.1.1 a.1.2 b.1.1 b.1.2 h1.ok k1.ok hl kl
 have C2:=FI a.2.1 a.2.2 b.2.1 b.2.2 h2.ok k2.ok hm km
 repeat' (with_reducible first|refine qq ?_|(refine Tx 0 ?_;refine gN xBo <| gN xBo <| gN (xAl Ai) ?_)|(refine Ax (id:=1) 4 AC (by kernel_rfl) ?_;dsimp only [List.take,List.drop];refine gP xL <| gP NP <| gP xL <| gP NP ?_;refine Ke ?_;refine gZ (xSk Ab) <| gZ (xSk Ab) ?_)|(refine Ax (id:=2) 11 AC (by kernel_rfl) ?_;dsimp only [List.take,List.drop];refine gP xF <| gP xL <| gP xF <| gP xL <| gP Aps <| gP xF <| gP xL <| gP xF <| gP xL <| gP Aps <| gP (by exact AF rfl BR rfl rfl) ?_;refine Ke ?_;refine gZ (xSk Ab) ?_))
 exact FJ
theorem AgA (h:p:=by first|exact xCl func149 (C0)|exact xCl func149 (C1)|exact xCl func149 (C2)|exact xCl func149 (C3)):p:=h
theorem Sy (a b:Iq) (h:IwS a 20000 20000) (k:IwS b 20000 20000):CV prog Ah 138 [aIw false a,aIw false b] [aIw false (AeS a b)]:=by
 refine cvz func138 ntmps138 ?_
 have h1:=h.s1
 have h2:=h.s2
 have hl:=h1.l4
 have hm:=h2.l4
 have k1:=k.s1
 have k2:=k.s2
 have kl:=k1.l4
 have km:=k2.l4
 have AA:=DJ a h
 have AB:=DJ b k
 have C0:=Hp a.1.1 a.1.2 b.1.1 b.1.2 h1.ok k1.ok hl kl (by have:=h1.d;have:=k1.d;omega)
 have s0:Sm (CG a.1 b.1) 40064 40000:=(Sm.mul h1 k1 (by decide)).more (by decide) (by decide)
 have C1:=Hp a.1.1 a.1.2 b.2.1 b.2.2 h1.ok k2.ok hl km (by have:=h1.d;have:=k2.d;omega)
 have s1:Sm (CG a.1 b.2) 40064 40000:=(Sm.mul h1 k2 (by decide)).more (by decide) (by decide)
 have C2:=Hp a.2.1 a.2.2 b.1.1 b.1.2 h2.ok k1.ok hm kl (by have:=h2.d;have:=k1.d;omega)
 have s2:Sm (CG a.2 b.1) 40064 40000:=(Sm.mul h2 k1 (by decide)).more (by decide) (by decide)
 have C3:=Hp a.2.1 a.2.2 b.2.1 b.2.2 h2.ok k2.ok hm km (by have:=h2.d;have:=k2.d;omega)
 have s3:Sm (CG a.2 b.2) 40064 40000:=(Sm.mul h2 k2 (by decide)).more (by decide) (by decide)
 have SP:=Mt true [CG a.1 b.1,CG a.1 b.2,CG a.2 b.1,CG a.2 b.2] (by simp) (fun p hp=>by simp only [cr,ct,or_false] at hp;rcases hp with rfl|rfl|rfl|rfl <;> assumption) (ax rfl)
 repeat' (with_reducible first|refine qq ?_|(refine Tx 0 ?_;refine gN xBo <| gN xBo <| gN (xAl Ai) ?_)|(refine Ax (id:=1) 4 AC (by kernel_rfl) ?_;dsimp only [List.take,List.drop];refine gP xL <| gP NP <| gP xL <| gP NP ?_;refine Ke ?_;refine gZ (xSk Ab) <| gZ (xSk Ab) ?_)|(refine Ax (id:=2) 22 AC (by kernel_rfl) ?_;dsimp only [List.take,List.drop];refine gP xF <| gP xL <| gP xF <| gP xL <| gP AgA <| gP xF <| gP xL <| gP xF <| gP xL <| gP AgA <| gP xF <| gP xL <| gP xF <| gP xL <| gP AgA <| gP xF <| gP xL <| gP xF <| gP xL <| gP AgA <| gQ (by exact ED rfl rfl Ag Aj (by decide) (by decide) (by decide) rfl rfl rfl) <| gP (xCl func170 (SP)) ?_;refine Ke ?_;refine gZ (xSk Ab) ?_))
 exact FJ
theorem PD (a b:Iq) (h:IwS a 20000 20000) (k:IwS b 20000 20000):CV prog Ah 82 [aIw false a,aIw false b] [aIw false (Gg a b)]:=by
 refine cvz func82 ntmps82 ?_
 have h1:=h.s1
 have h2:=h.s2
 have hl:=h1.l4
 have hm:=h2.l4
 have k1:=k.s1
 have k2:=k.s2
 have kl:=k1.l4
 have km:=k2.l4
 have AA:=DJ a h
 have AB:=DJ b k
 have s0:=Sm.more (n':=40064) (d':=40000) h1 (by decide) (by decide)
 have s1:=Sm.more (n':=40064) (d':=40000) h2 (by decide) (by decide)
 have s2:=Sm.more (n':=40064) (d':=40000) k1 (by decide) (by decide)
 have s3:=Sm.more (n':=40064) (d':=40000) k2 (by decide) (by decide)
 have SP:=Mt true [a.1,a.2,b.1,b.2] (by simp) (fun p hp=>by simp only [cr,ct,or_false] at hp;rcases hp with rfl|rfl|rfl|rfl <;> assumption) (ax rfl)
 repeat' (with_reducible first|refine qq ?_|(refine Tx 0 ?_;refine gN xBo <| gN xBo <| gN (xAl Ai) ?_)|(refine Ax (id:=1) 4 AC (by kernel_rfl) ?_;dsimp only [List.take,List.drop];refine gP xL <| gP NP <| gP xL <| gP NP ?_;refine Ke ?_;refine gZ (xSk Ab) <| gZ (xSk Ab) ?_)|(refine Tx 2 ?_;refine gO xF <| gO xL <| gO xF <| gO xL <| gO xF <| gO xL <| gO xF <| gO xL <| gN (by exact ED rfl rfl Ag Aj (by decide) (by decide) (by decide) rfl rfl rfl) <| gO (xCl func170 (SP)) <| gZ (xSk Ab) ?_))
 exact FJ
theorem IA (a:Iq) (f:Pq) (h:IwS a 20000 20000) (hf:Sm f 20000 20000):CV prog Ah 132 [aIw false a,aDy false f.1 f.2] [aIw false (IY a f)]:=by
 refine cvz func132 ntmps132 ?_
 have PT:=DQ f hf.ok hf.lz
 have ML:=Sy a (f,f) h (.pt hf)
 repeat' (with_reducible first|refine qq ?_|(refine Tx 0 ?_;refine gN xBo <| gN xBo <| gN (xAl Ai) ?_)|(refine Ax (id:=1) 4 AC (by kernel_rfl) ?_;dsimp only [List.take,List.drop];refine gP xL <| gP xL <| gP (xCl func79 (PT)) <| gP (xCl func138 (ML)) ?_;refine Ke ?_;refine gZ (xSk Ab) ?_))
 exact FJ
theorem Yd (a b:Iq) (h:IwS a 20000 20000) (k:IwS b 20000 20000):CV prog Ah 137 [aIw false a,aIw false b] [aIw false (Agq a b)]:=by
 refine cvz func137 ntmps137 ?_
 have NG:=Ss b k
 have AD:=Su a (ZS b) h k.neg
 repeat' (with_reducible first|refine qq ?_|(refine Tx 0 ?_;refine gN xBo <| gN xBo <| gN (xAl Ai) ?_)|(refine Ax (id:=1) 4 AC (by kernel_rfl) ?_;dsimp only [List.take,List.drop];refine gP xL <| gP xL <| gP (xCl func139 (NG)) <| gP (xCl func136 (AD)) ?_;refine Ke ?_;refine gZ (xSk Ab) ?_))
 exact FJ
theorem rvJ0 {t:Tmp} {k:Nat} {q:Pq} (hk:TyK P ty true k) (hi:6=k) (hF:F t=.one (.ref id 0 none):=by with_unfolding_all exact rfl) (hH:H[id]?=some (.box ty' ([.d (.val (.bool false)),.d (.val (.slice none 0 0)),.d (.val (.int .i64 0))]++(dDy false q.1 q.2).map C.d)):=by with_unfolding_all exact rfl):RV P F H (.cell t ty) (aIw false ((0,0),q)):=by
 obtain ⟨⟨dd,hu,hd⟩,hz⟩:=hk
 have e:dDy false 0 0=[.val (.bool false),.row false 1 0 [],.val (.int .i64 0)]:=A.agg.inj Ht
 refine .cellA hF hH hu hd (by rw [hz,←hi];rfl) ?_
 show Ba _ _ (dDy false 0 0++dDy false q.1 q.2)
 rw [e]
 refine .app (.cons_ (.d fun _=>.val _) (.cons_ .nil (.cons_ (.d fun _=>.val _) .nil_))) (Ba.map_l.2 ⟨rfl,fun j x y hx hy=>?_⟩)
 rw [hx] at hy
 cases hy
 exact .d fun _=>Nj _ _ x (gM hx)
theorem Apt (h:p:=by first|exact xCl func150 (A1)|exact xCl func150 (A2)):p:=h
theorem Apu (h:p:=by first|exact xCl func28 (G1)|exact xCl func28 (G2)):p:=h
theorem Adk (k:p') (h:Hd9 p'→p:=by with_reducible first|(intro Z9;refine qq ?_;exact Z9.o)|(intro Z9;refine Tx 0 ?_;refine gN xBo <| gN (xAl Ai) ?_;exact Z9.o)|(intro Z9;refine Tx 1 ?_;refine gO xL <| gO (xCl func168 (AR)) <| gZ (xSk Ab) ?_;exact Z9.o)|(intro Z9;refine Ax (id:=2) 9 AC (by kernel_rfl) ?_;dsimp only [List.take,List.drop];refine gP xF <| gP xL <| gP Apt <| gP xF <| gP xL <| gP Apt <| gQ (by exact Fj rfl Ag Aj rfl rfl rfl rfl (by decide) (by decide)) <| gP (xCl func170 (SP)) <| gQ (xAl Ai) ?_;refine Ke ?_;refine gZ (xSk Ab) ?_;exact Z9.o)|(intro Z9;refine Tx 3 ?_;refine gO xF <| gO xL <| gO Apu <| gO xLt <| gO xM ?_;(first|iterate 4 refine Jd ?_|(refine Jy (xFa AI Aa) ?_;refine Jy (xLa Aa) ?_;refine Jy Apu ?_;refine Jy xGt ?_));refine gO xPk ?_;exact Z9.o)|(intro Z9;refine Tx 5 ?_;refine gO xL <| gZ (xSk Ab) ?_;exact Z9.o)|fail):p:=h ⟨k⟩
theorem Sz (a:Iq) (h:IwS a 20000 20000):CV prog Ah 140 [aIw false a] [aIw false (QX a)]:=by
 refine cvz func140 ntmps140 ?_
 have h1:=h.s1
 have h2:=h.s2
 have hl:=h1.l4
 have hm:=h2.l4
 have AR:=DJ a h
 have A1:=Sh a.1.1 a.1.2 h1.ok hl
 have A2:=Sh a.2.1 a.2.2 h2.ok hm
 have s1:Sm (GF a.1) 40064 40000:=h1.abs.more (by decide) (by decide)
 have s2:Sm (GF a.2) 40064 40000:=h2.abs.more (by decide) (by decide)
 have SP:=Mt true [GF a.1,GF a.2] (by simp) (fun p hp=>by simp only [cr,ct,or_false] at hp;rcases hp with rfl|rfl <;> assumption) (ax rfl)
 have G1:=Ms a.1.1 a.1.2 h1.ok hl
 have G2:=Ms a.2.1 a.2.2 h2.ok hm
 by_cases c1:a.1.1<0
 case pos =>
  by_cases c2:0<a.2.1
  case pos =>
   rw [show sgI a.1.1 = -1 by unfold sgI;(repeat' split) <;> omega] at G1
   rw [show sgI a.2.1=1 by unfold sgI;(repeat' split) <;> omega] at G2
   have e:QX a=((0,0),(CI [GF a.1,GF a.2]).2):=if_pos ⟨c1,c2⟩
   rw [e]
   repeat' (with_reducible first|refine Adk ?_|(refine Tx 4 ?_;refine gO (by exact AF rfl Ga rfl rfl) <| gO xF <| gZ (xSk Aa) ?_))
   exact Au rfl (.cons_ (rvJ0 Ab rfl) .nil_)
  rw [show sgI a.1.1 = -1 by unfold sgI;(repeat' split) <;> omega] at G1
  have g2:sgI a.2.1≤0:=by unfold sgI;(repeat' split) <;> omega
  generalize sgI a.2.1=g at *
  rw [show QX a=CI [GF a.1,GF a.2] from if_neg (fun h=>c2 h.2)]
  repeat' (with_reducible first|refine Adk ?_)
  exact FJ
 have g1:0≤sgI a.1.1:=by unfold sgI;(repeat' split) <;> omega
 generalize sgI a.1.1=g at *
 rw [show QX a=CI [GF a.1,GF a.2] from if_neg (fun h=>c1 h.1)]
 repeat' (with_reducible first|refine Adk ?_)
 exact FJ
theorem Apv (h:p:=by first|exact xCl func79 (PV)|exact xCl func79 (PU)):p:=h
theorem Uz (a:Iq) (v u:Pq) (h:IwS a 20000 20000) (hv:Sm v 20000 20000) (hu:Sm u 20000 20000) (hvu:Gf v u≤0):CV prog Ah 143 [aIw false a,aDy false v.1 v.2,aDy false u.1 u.2] [aIw false (Qo a v u),aE 0]:=by
 refine cvz func143 ntmps143 ?_
 have CM:=Ck v.1 v.2 u.1 u.2 hv.ok hu.ok hv.lz hu.lz
 have PV:=DQ v hv.ok hv.lz
 have PU:=DQ u hu.ok hu.lz
 have MX:=Sw a (v,v) h (.pt hv)
 have MN:=Sv (Aax a (v,v)) (u,u) (h.max (.pt hv)) (.pt hu)
 have hle:Gf v u≤0:=hvu
 unfold Gf at hle
 repeat' (with_reducible first|refine qq ?_|(refine Tx 0 ?_;refine gN xBo <| gN xBo <| gN xBo <| gN (xAl Ai) <| gO xA ?_)|(refine Tx 1 ?_;refine gO xL <| gO xL <| gO (xCl func9 (CM)) <| gO xGt ?_)|(refine Ax (id:=3) 7 AC (by kernel_rfl) ?_;dsimp only [List.take,List.drop];refine gP xL <| gP xL <| gP Apv <| gP (xCl func142 (MX)) <| gP xL <| gP Apv <| gP (xCl func141 (MN)) ?_;refine Ke ?_;refine gZ (xSk Ab) <| gO xA ?_))
 exact Au rfl (.cons_ (rvJ Ab rfl) (.cons_ (Hc rfl rfl) .nil_))
theorem ZW (a:Iq) (den:Nat) (h:IwS a 20000 20000) (hd:den≤65536):CV prog Ah 81 [aIw false a,aI (den:Int)] [aIw false (GO a den),aE 0]:=by
 refine cvz func81 ntmps81 ?_
 have h1:=h.s1
 have h2:=h.s2
 have hl:=h1.l4
 have hm:=h2.l4
 have AR:=DJ a h
 have FL:=(Rc a.1.1 a.1.2 den h1.ok hl hd).cv
 have CE:=Uw a.2.1 a.2.2 den h2.ok hm hd
 repeat' (with_reducible first|refine qq ?_|(refine Tx 0 ?_;refine gN xBo <| gN (xAl Ai) <| gO xA ?_)|(refine Tx 1 ?_;refine gO xL <| gO (xCl func168 (AR)) <| gZ (xSk Ab) ?_)|(refine Tx 2 ?_;refine gO xF <| gO xL <| gO xM <| gO (xCl func122 (FL)) <| gO xMt <| gO (by exact CQ rfl rfl rfl) <| gO xEx <| gN (xAl Aj) <| gZ (xSk Aa) <| gO xA ?_)|(refine Tx 3 ?_;refine gO xM <| gO (xNE Am) ?_)|(refine Tx 5 ?_;refine gO xF <| gO xL <| gO xM <| gO (xCl func169 (CE)) <| gO xMt <| gO (by exact CQ rfl rfl rfl) <| gO xEx <| gN (xAl Aj) <| gZ (xSk Aa) <| gO xA ?_)|(refine Tx 6 ?_;refine gO xM <| gO (xNE Am) ?_)|(refine Tx 8 ?_;refine gO xL <| gO xL <| gO (by exact AF rfl BR rfl rfl) <| gZ (xSk Ab) <| gO xA ?_))
 exact Au rfl (.cons_ (rvJ Ab rfl) (.cons_ (Hc rfl rfl) .nil_))
theorem Apw (h:p:=by first|exact xCl func9 (C1)|exact xCl func9 (C2)):p:=h
theorem Adl (k:p') (h:Hd9 p'→p:=by with_reducible first|(intro Z9;refine qq ?_;exact Z9.o)|(intro Z9;refine Tx 0 ?_;refine gN xBo <| gN xBo <| gO xA ?_;exact Z9.o)|(intro Z9;refine Ax (id:=1) 4 AC (by kernel_rfl) ?_;dsimp only [List.take,List.drop];refine gP xL <| gP NP <| gP xL <| gP NP ?_;refine Ke ?_;refine gZ (xSk Ab) <| gZ (xSk Ab) ?_;exact Z9.o)|(intro Z9;refine Tx 2 ?_;refine gO xF <| gO xL <| gO xF <| gO xL <| gO Apw <| gO xLe <| gO xM ?_;(first|iterate 6 refine Jd ?_|(refine Jy (xFa AI Aa) ?_;refine Jy (xLa Aa) ?_;refine Jy (xFa AI Aa) ?_;refine Jy (xLa Aa) ?_;refine Jy Apw ?_;refine Jy xLe ?_));refine gO xPk <| gO xA ?_;exact Z9.o)|fail):p:=h ⟨k⟩
theorem Cb (a b:Iq) (h:IwS a 20000 20000) (k:IwS b 20000 20000):CV prog Ah 144 [aIw false a,aIw false b] [aB (iIn a b)]:=by
 refine cvz func144 ntmps144 ?_
 have h1:=h.s1
 have h2:=h.s2
 have hl:=h1.l4
 have hm:=h2.l4
 have k1:=k.s1
 have k2:=k.s2
 have kl:=k1.l4
 have km:=k2.l4
 have AA:=DJ a h
 have AB:=DJ b k
 have C1:=Ck b.1.1 b.1.2 a.1.1 a.1.2 k1.ok h1.ok kl hl
 have C2:=Ck a.2.1 a.2.2 b.2.1 b.2.2 h2.ok k2.ok hm km
 by_cases c1:Bm b.1.1 b.1.2 a.1.1 a.1.2≤0
 case neg =>
  repeat' (with_reducible first|refine Adl ?_)
  exact Au rfl (.cons_ (Db rfl (by unfold iIn;rw [decide_eq_false c1];rfl)) .nil_)
 by_cases c2:Bm a.2.1 a.2.2 b.2.1 b.2.2≤0
 case pos =>
  repeat' (with_reducible first|refine Adl ?_)
  exact Au rfl (.cons_ (Db rfl (by unfold iIn;rw [decide_eq_true c1,decide_eq_true c2];rfl)) .nil_)
 case neg =>
  repeat' (with_reducible first|refine Adl ?_)
  exact Au rfl (.cons_ (Db rfl (by unfold iIn;rw [decide_eq_true c1,decide_eq_false c2];rfl)) .nil_)
theorem Mu (a:Iq) (h:IwS a 20000 20000):CV prog Ah 151 [aIw false a] [aDy false (Fu a).1 (Fu a).2]:=by
 refine cvz func151 ntmps151 ?_
 have AB:=Sz a h
 repeat' (with_reducible first|refine qq ?_|(refine Tx 0 ?_;refine gN xBo <| gN (xAl Aj) ?_)|(refine Tx 1 ?_;refine gO xL <| gO (xCl func140 (AB)) <| gO (by exact TG rfl rfl AI Aa rfl) <| gZ (xSk Aa) ?_))
 exact Au rfl (.cons_ (rvW Aa rfl) .nil_)
end Go.Proofs.YtjlkgfeepocjfaaGreatDoor
