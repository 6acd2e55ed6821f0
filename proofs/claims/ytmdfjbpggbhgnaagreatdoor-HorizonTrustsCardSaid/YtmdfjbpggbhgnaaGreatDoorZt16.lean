/- What the proofs of this claim share, part 16. No conditions. -/
import Derived.Test.YtmdfjbpggbhgnaaGreatDoorZt10
import Derived.Test.YtmdfjbpggbhgnaaGreatDoorZt9
import Derived.Test.YtmdfjbpggbhgnaaGreatDoorZt12
import Derived.Test.YtmdfjbpggbhgnaaGreatDoorZt15
import Derived.Test.YtmdfjbpggbhgnaaGreatDoorZt11
import Derived.Test.YtmdfjbpggbhgnaaGreatDoorZt8
import Derived.Test.YtmdfjbpggbhgnaaGreatDoorZt5
import Derived.Tactics2
import Derived.Deep.RegionHeld3
set_option maxRecDepth 100000
set_option maxHeartbeats 8000000
set_option linter.unusedVariables false
set_option linter.unusedSimpArgs false
set_option linter.unusedSectionVars false
namespace Go.Proofs.YtmdfjbpggbhgnaaGreatDoor
open Go.RowKit
theorem Acq {p q:Int × Nat} {X:Int} {Q:Nat} (h1:Nf p.1 p.2) (h2:Nf q.1 q.2) (e1:p.1*2 ^ Q=X*2 ^ p.2) (e2:q.1*2 ^ Q=X*2 ^ q.2):p=q:=by
 have key:∀ p q:Int × Nat,Nf q.1 q.2→p.1*2 ^ Q=X*2 ^ p.2→q.1*2 ^ Q=X*2 ^ q.2→p.2≤q.2→q.1=p.1*2 ^ (q.2 - p.2):=fun p q _ e1 e2 hle=>by
  have pw:(2:Int) ^ Q≠0:=Int.ne_of_gt (Int.pow_pos (by decide))
  refine Int.eq_of_mul_eq_mul_right pw ?_
  rw [e2,Int.mul_right_comm,e1,Int.mul_assoc,←Int.pow_add]
  congr 2;omega
 have fin:∀ p q:Int × Nat,Nf q.1 q.2→p.1*2 ^ Q=X*2 ^ p.2→q.1*2 ^ Q=X*2 ^ q.2→p.2≤q.2→p=q:=fun p q hq e1 e2 hle=>by
  have h:=key p q hq e1 e2 hle
  by_cases hd:p.2=q.2
  ·rw [hd,Nat.sub_self] at h
   refine Prod.ext ?_ hd
   rw [h];show p.1=p.1*1;omega
  ·exfalso
   have ho:=hq.2 (by omega)
   obtain ⟨k,hk⟩:∃ k,q.2 - p.2=k+1:=⟨q.2 - p.2 - 1,by omega⟩
   rw [hk,Int.pow_succ,←Int.mul_assoc] at h
   omega
 rcases Nat.le_total p.2 q.2 with h|h
 ·exact fin p q h2 e1 e2 h
 ·exact (fin q p h1 e2 e1 h).symm
theorem Acr (p:Int × Nat) {Q:Nat} (h:p.2≤Q):p.1*2 ^ Q=p.1*2 ^ (Q - p.2)*2 ^ p.2:=by
 rw [Int.mul_assoc,←Int.pow_add]
 congr 2;omega
theorem Iy:aDy false 0 0=.agg [.val (.bool false),.row false 1 0 [],.val (.int .i64 0)]:=by
 unfold aDy dDy wds
 rw [show (0:Int).natAbs=0 from rfl,AP]
 rfl
theorem Adl {P:Program} {F:Frm} {H:List Ob} {t:Tmp} {ty ty' id k:Nat} (hk:TyK P ty true k) (hi:3=k) (hF:F t=.one (.ref id 0 none):=by with_unfolding_all exact rfl) (hH:H[id]?=some (.box ty' [.d (.val (.bool false)),.d (.val (.slice none 0 0)),.d (.val (.int .i64 0))]):=by with_unfolding_all exact rfl):RV P F H (.cell t ty) (.agg [.val (.bool false),.row false 1 0 [],.val (.int .i64 0)]):=by
 obtain ⟨⟨dd,hu,hd⟩,hz⟩:=hk
 exact .cellA hF hH hu hd (by rw [hz,←hi];rfl) (.cons_ (.d fun _=>.val _) (.cons_ .nil (.cons_ (.d fun _=>.val _) .nil_)))
def AeD (y:Bk) (l:List (Int × Nat)) (ps:List Prt) (ins:List Int):Int × Nat :=
 if y.kind=0 then Ai (ins[((y.args[0]?).getD 0).toNat]?.getD 0) 0 (-((ps[((y.args[0]?).getD 0).toNat]?.map Prt.fr).getD 0)) else blkD y l
theorem Tn (n e:Int):CV Tryz.prog Ax 20 [.agg [dI n,dI e]] [aDy false (if EW n e then Ai n 0 e else (0,0)).1 (if EW n e then Ai n 0 e else (0,0)).2,aE (if EW n e then 0 else 3)]:=by
 refine cvz Tryz.func20 Tryz.ntmps20 ?_
 by_cases hs:EW n e
 case pos =>
  rw [if_pos hs,if_pos hs]
  obtain ⟨s1,s2,s3,s4⟩:=hs
  have OF:=FV n (by omega) (by omega)
  have SH:=Ca n 0 e ⟨by decide,fun h=>absurd rfl h⟩ (Nat.le_trans (Bb (k:=2) (by omega)) (by decide)) (by omega)
  repeat' (with_reducible first|refine qq ?_|(refine Tx 0 ?_;refine Jn xBo ?_;refine Jn (xAl Aj) ?_;refine Ja ?_)|(refine Tx 1 ?_;refine jF ?_;refine jD ?_;refine Jo xLe ?_;refine Jm ?_;(first|iterate 3 refine Jd ?_|(refine Jy (xFa DQ Al) ?_;refine Jy (xLd Al) ?_;refine Jy xGe ?_));refine Jo xPk ?_;refine Jm ?_;(first|iterate 3 refine Jd ?_|(refine Jy (xFa Cm Al) ?_;refine Jy (xLd Al) ?_;refine Jy xLt ?_));refine Jo xPk ?_;refine Jm ?_;(first|iterate 3 refine Jd ?_|(refine Jy (xFa Cm Al) ?_;refine Jy (xLd Al) ?_;refine Jy xGt ?_));refine Jo xPk ?_)|(refine Ba (id:=3) 6 AK (by kernel_rfl) ?_;dsimp only [List.take,List.drop];refine kF ?_;refine kD ?_;refine Ko (xCl Tryz.func68 (OF)) ?_;refine kF ?_;refine kD ?_;refine Ko (xCl Tryz.func21 (SH)) ?_;refine Ke ?_;refine Js (xSk Aa) ?_;refine Ja ?_))
  exact Ap rfl (.cons_ (rvW Aa rfl) (.cons_ (Qh rfl rfl) .nil_))
 rw [if_neg hs,if_neg hs,Iy]
 unfold EW at hs
 by_cases c:n ≤ -2147483648
 case pos =>
  repeat' (with_reducible first|refine qq ?_|(refine Tx 0 ?_;refine Jn xBo ?_;refine Jn (xAl Aj) ?_;refine Ja ?_)|(refine Tx 1 ?_;refine jF ?_;refine jD ?_;refine Jo xLe ?_;refine Jm ?_;(first|iterate 3 refine Jd ?_|(refine Jy (xFa DQ Al) ?_;refine Jy (xLd Al) ?_;refine Jy xGe ?_));refine Jo xPk ?_;refine Jm ?_;(first|iterate 3 refine Jd ?_|(refine Jy (xFa Cm Al) ?_;refine Jy (xLd Al) ?_;refine Jy xLt ?_));refine Jo xPk ?_;refine Jm ?_;(first|iterate 3 refine Jd ?_|(refine Jy (xFa Cm Al) ?_;refine Jy (xLd Al) ?_;refine Jy xGt ?_));refine Jo xPk ?_)|(refine Tx 2 ?_;refine Jo (by exact BI rfl Ev rfl rfl) ?_;refine Jo (xMi Tryz.underlying109) ?_;refine Js (xSk Aa) ?_;refine Ja ?_))
  exact Ap rfl (.cons_ (Adl Aa rfl) (.cons_ (.tmp (.one (Db rfl fun _=>.val _))) .nil_))
 have ca:=c
 clear c
 by_cases c:2147483648≤n
 case pos =>
  repeat' (with_reducible first|refine qq ?_|(refine Tx 0 ?_;refine Jn xBo ?_;refine Jn (xAl Aj) ?_;refine Ja ?_)|(refine Tx 1 ?_;refine jF ?_;refine jD ?_;refine Jo xLe ?_;refine Jm ?_;(first|iterate 3 refine Jd ?_|(refine Jy (xFa DQ Al) ?_;refine Jy (xLd Al) ?_;refine Jy xGe ?_));refine Jo xPk ?_;refine Jm ?_;(first|iterate 3 refine Jd ?_|(refine Jy (xFa Cm Al) ?_;refine Jy (xLd Al) ?_;refine Jy xLt ?_));refine Jo xPk ?_;refine Jm ?_;(first|iterate 3 refine Jd ?_|(refine Jy (xFa Cm Al) ?_;refine Jy (xLd Al) ?_;refine Jy xGt ?_));refine Jo xPk ?_)|(refine Tx 2 ?_;refine Jo (by exact BI rfl Ev rfl rfl) ?_;refine Jo (xMi Tryz.underlying109) ?_;refine Js (xSk Aa) ?_;refine Ja ?_))
  exact Ap rfl (.cons_ (Adl Aa rfl) (.cons_ (.tmp (.one (Db rfl fun _=>.val _))) .nil_))
 have cb:=c
 clear c
 by_cases c:e < -62
 case pos =>
  repeat' (with_reducible first|refine qq ?_|(refine Tx 0 ?_;refine Jn xBo ?_;refine Jn (xAl Aj) ?_;refine Ja ?_)|(refine Tx 1 ?_;refine jF ?_;refine jD ?_;refine Jo xLe ?_;refine Jm ?_;(first|iterate 3 refine Jd ?_|(refine Jy (xFa DQ Al) ?_;refine Jy (xLd Al) ?_;refine Jy xGe ?_));refine Jo xPk ?_;refine Jm ?_;(first|iterate 3 refine Jd ?_|(refine Jy (xFa Cm Al) ?_;refine Jy (xLd Al) ?_;refine Jy xLt ?_));refine Jo xPk ?_;refine Jm ?_;(first|iterate 3 refine Jd ?_|(refine Jy (xFa Cm Al) ?_;refine Jy (xLd Al) ?_;refine Jy xGt ?_));refine Jo xPk ?_)|(refine Tx 2 ?_;refine Jo (by exact BI rfl Ev rfl rfl) ?_;refine Jo (xMi Tryz.underlying109) ?_;refine Js (xSk Aa) ?_;refine Ja ?_))
  exact Ap rfl (.cons_ (Adl Aa rfl) (.cons_ (.tmp (.one (Db rfl fun _=>.val _))) .nil_))
 have cc:=c
 clear c
 have cd:30<e:=by omega
 repeat' (with_reducible first|refine qq ?_|(refine Tx 0 ?_;refine Jn xBo ?_;refine Jn (xAl Aj) ?_;refine Ja ?_)|(refine Tx 1 ?_;refine jF ?_;refine jD ?_;refine Jo xLe ?_;refine Jm ?_;(first|iterate 3 refine Jd ?_|(refine Jy (xFa DQ Al) ?_;refine Jy (xLd Al) ?_;refine Jy xGe ?_));refine Jo xPk ?_;refine Jm ?_;(first|iterate 3 refine Jd ?_|(refine Jy (xFa Cm Al) ?_;refine Jy (xLd Al) ?_;refine Jy xLt ?_));refine Jo xPk ?_;refine Jm ?_;(first|iterate 3 refine Jd ?_|(refine Jy (xFa Cm Al) ?_;refine Jy (xLd Al) ?_;refine Jy xGt ?_));refine Jo xPk ?_)|(refine Tx 2 ?_;refine Jo (by exact BI rfl Ev rfl rfl) ?_;refine Jo (xMi Tryz.underlying109) ?_;refine Js (xSk Aa) ?_;refine Ja ?_))
 exact Ap rfl (.cons_ (Adl Aa rfl) (.cons_ (.tmp (.one (Db rfl fun _=>.val _))) .nil_))
def Pm (bs:List Bk) (j:Nat):Bk:=bs[j]?.getD bk0
def scA (F:List Int) (j:Nat):Int:=F[j]?.getD 0
def Qo (ps:List Prt) (a:Int):Int:=(ps[a.toNat]?.getD ⟨0,0,0⟩).fr
def AeE (bs:List Bk) (F:List Int) (j:Nat):Int:=US (Pm bs j).vn (Pm bs j).ve (scA F j)
def Agj (bs:List Bk) (F:List Int) (j:Nat):Int:=US (Pm bs j).un (Pm bs j).ue (scA F j)
def Acs (bs:List Bk) (F:List Int) (j:Nat):Int:=DK (Pm bs j).vn (Pm bs j).ve (scA F j)
def Agk (bs:List Bk) (F:List Int) (j:Nat):Int:=DK (Pm bs j).un (Pm bs j).ue (scA F j)
def conE (bs:List Bk) (F:List Int) (j:Nat):Int :=
 if BU bs j=1∨BU bs j=2 then Acs bs F j else if BU bs j=11 then (if Acs bs F j=0 then Agk bs F j else Acs bs F j) else 0
def Agl (bs:List Bk) (F:List Int) (j:Nat):Int:=if BU bs j=1∨BU bs j=2∨BU bs j=11 then AeE bs F j else 0
def conU (bs:List Bk) (F:List Int) (j:Nat):Int:=if BU bs j=11 then Agj bs F j else 0
def tab (n:Nat) (f:Nat→Int):List Int:=(List.range n).map f
def Acu (p:Nat→Bool) (j:Nat):Nat:=((List.range j).filter p).length
def dlB (bs:List Bk) (i:Nat):Bool:=BU bs i == 2
def cpB (bs:List Bk) (i:Nat):Bool:=BU bs i == 11
def dlK (bs:List Bk) (k:Nat):List Nat:=(List.range k).filter (dlB bs)
def cpK (bs:List Bk) (k:Nat):List Nat:=(List.range k).filter (cpB bs)
def Zm (bs:List Bk) (j:Nat):Int :=
 if BU bs j=2 then (bs.length:Int)+(Acu (dlB bs) j:Int) else if BU bs j=11 then (bs.length:Int)+((dlK bs bs.length).length:Int)+2*(Acu (cpB bs) j:Int) else 0
def opM (k:Int):Int:=if k=3 then 3 else if k=4 then 4 else if k=8 then 8 else if k=9 then 9 else if k=5 then 5 else 10
def Cg (b:Bk):Int:=b.args[0]?.getD 0
def Ez (b:Bk):Int:=b.args[1]?.getD 0
def blkC (ps:List Prt) (bs:List Bk) (F:List Int) (j:Nat) (c:Int):List Ins :=
 let b:=Pm bs j
 let s:=scA F j
 let s0:=scA F (Cg b).toNat
 let s1:=scA F (Ez b).toNat
 if b.kind=0 then [⟨0,j,Cg b,0,s - Qo ps (Cg b),0,0⟩]
 else if b.kind=1 then [⟨1,j,0,0,0,0,AeE bs F j⟩]
 else if b.kind=6 then [⟨6,j,Cg b,0,s - s0+b.ve,0,b.vn⟩]
 else if b.kind=7 then [⟨7,j,Cg b,Ez b,s - s0 - s1,0,0⟩]
 else if b.kind=11 then [⟨9,j,Cg b,c,s - s0,0,0⟩,⟨8,j,j,c+1,0,0,0⟩]
 else if b.args.length=2 then [⟨opM b.kind,j,Cg b,Ez b,s - s0,s - s1,0⟩]
 else [⟨opM b.kind,j,Cg b,0,s - s0,0,0⟩]
def mv1 (bs:List Bk) (F:List Int) (j:Nat):Ins:=⟨2,Zm bs j,Cg (Pm bs j),0,scA F j - scA F (Cg (Pm bs j)).toNat,0,0⟩
def mv2 (bs:List Bk) (j:Nat):Ins:=⟨2,j,Zm bs j,0,0,0,0⟩
def Agm (ps:List Prt) (bs:List Bk) (F:List Int):List Ins :=
 (Dc bs).flatMap (fun j=>blkC ps bs F j (Zm bs j))++(CA bs).map (mv1 bs F)++(CA bs).map (mv2 bs)
def initM (bs:List Bk) (F:List Int):List Int :=
 tab bs.length (fun j=>if BU bs j=2 then Agl bs F j else 0)++List.replicate (CA bs).length 0++(cpK bs bs.length).flatMap (fun j=>[Agl bs F j,conU bs F j])
def shOk (x:Ins):Bool:=decide (-62≤x.sa∧x.sa≤30 ∧ -62≤x.sb∧x.sb≤30)
def AeF (z:Int):Bool:=decide (0≤z∧z≤30)
def Agn (ps:List Prt) (bs:List Bk) (F:List Int):Int :=
 if ¬ F.length=bs.length then 11 else if ¬ F.all AeF=true then 3 else if ¬ AH ((List.range bs.length).map (conE bs F))=0 then AH ((List.range bs.length).map (conE bs F))
 else if (Agm ps bs F).all shOk=true then 0 else 3
def cpE (d:Dg) (F:List Int):Int:=if BN d.ps d.bs d.os=0 then Agn d.ps d.bs F else BN d.ps d.bs d.os
theorem RK {l:List Int} {k:Nat} {e:Int} (h:∀ j x,j<k→l[j]?=some x→x=0) (hk:l[k]?=some e) (he:e≠0):AH l=e:=by
 induction l generalizing k with
 | nil=>simp at hk
 | cons x l ih =>
  unfold AH
  cases k with
  | zero =>
   have:x=e:=by simpa using hk
   rw [if_neg (by rw [this];exact he),this]
  | succ k =>
   have hx:x=0:=h 0 x (by omega) rfl
   rw [if_pos hx]
   exact ih (k:=k) (fun j y hj hy=>h (j+1) y (by omega) (by simpa using hy)) (by simpa using hk)
section
variable {ps:List Prt} {bs:List Bk} {F:List Int}
theorem FX {j:Nat} {y:Bk} (h:bs[j]?=some y):Pm bs j=y:=by unfold Pm;rw [h];rfl
theorem OM {j:Nat} {y:Bk} (h:bs[j]?=some y):BU bs j=y.kind:=by unfold BU;rw [h];rfl
end
end Go.Proofs.YtmdfjbpggbhgnaaGreatDoor
namespace Go.Proofs.YtmdfjbpggbhgnaaGreatDoor
open Go.RowKit
section
variable {ps:List Prt} {bs:List Bk} {os:List Int}
theorem RL (h:BN ps bs os=0) {i:Nat} {y:Bk} (hy:bs[i]?=some y):BC ps.length bs.length y=0 :=
 CX (Wq (Te h).2.1) _ (List.mem_map.2 ⟨y,List.mem_of_getElem? hy,rfl⟩)
theorem LG (h:BN ps bs os=0) {i:Nat} {y:Bk} (hy:bs[i]?=some y):0≤AU y.kind∧((y.args.length:Nat):Int)=AU y.kind∧∀ a∈y.args,0≤a∧a<(Dv ps.length bs.length y.kind:Int):=Td (RL h hy)
theorem Tp (h:BN ps bs os=0) {i:Nat} {y:Bk} (hy:bs[i]?=some y) (hv:La y.kind=true):EW y.vn y.ve:=by
 have h1:=RL h hy
 have ha:=LG h hy
 unfold BC at h1
 rw [if_neg (by omega),if_neg (not_not_intro ha.2.1)] at h1
 by_cases h3:AH (y.args.map (Lo (Dv ps.length bs.length y.kind)))=0
 ·rw [if_neg (not_not_intro h3)] at h1
  by_cases h4:BF y.vn y.ve (La y.kind)=0
  ·rw [hv] at h4
   unfold BF at h4
   rw [if_pos rfl] at h4
   by_cases h5:EW y.vn y.ve
   ·exact h5
   ·rw [if_neg h5] at h4;cases h4
  ·rw [if_pos h4] at h1
   exact absurd h1 h4
 ·rw [if_pos h3] at h1
  cases h1
theorem Zn (h:BN ps bs os=0) {i:Nat} {p:Prt} (hp:ps[i]?=some p):DR p=0:=by
 have h1:=(Te h).2.1
 unfold DJ at h1
 rw [Bx] at h1
 by_cases h2:AH (ps.map DR)=0
 ·exact CX h2 _ (List.mem_map.2 ⟨p,List.mem_of_getElem? hp,rfl⟩)
 ·rw [if_neg h2] at h1
  exact absurd h1 h2
theorem Aap {u i:Nat} (h:(Dc bs)[u]?=some i):i<bs.length∧BU bs i≠2:=(Ol bs.length (GO.nil bs)).mem i (List.mem_of_getElem? h)
theorem Acv:(Dc bs).length≤bs.length:=Nat.le_trans (Ol bs.length (GO.nil bs)).le (Hk bs)
end
end Go.Proofs.YtmdfjbpggbhgnaaGreatDoor
namespace Go.Proofs.YtmdfjbpggbhgnaaGreatDoor
open Go.RowKit
end Go.Proofs.YtmdfjbpggbhgnaaGreatDoor
namespace Go.Proofs.YtmdfjbpggbhgnaaGreatDoor
open Go.RowKit
abbrev Dd (p:Int × Nat):Bool:=RJ p.1.natAbs p.2
def tlV:Value:=.iface 176 (.agg #[])
def tlC:List PanicEntry:=[{ v:=tlV,recovered:=false }]
def cV:Option (Int × Nat)→List C
 | none=>[.d (.val (.bool false)),.d (.val (.slice none 0 0)),.d (.val (.int .i64 0))]
 | some p=>(dDy false p.1 p.2).map C.d
def cVs (l:List (Option (Int × Nat))):List C:=(l.map cV).flatten
def gV (l:List (Option (Int × Nat))):List (Int × Nat):=l.map (·.getD (0,0))
theorem Tq (o:Option (Int × Nat)):(cV o).length=3:=by cases o <;> rfl
theorem Acw (l:List (Option (Int × Nat))):(cVs l).length=l.length*3:=by
 induction l with
 | nil=>rfl
 | cons o l ih =>
  have:(cVs (o::l)).length=(cV o).length+(cVs l).length:=by simp [cVs]
  rw [this,ih,Tq,List.length_cons];omega
theorem Hx (o:Option (Int × Nat)) (l:List (Option (Int × Nat))):cVs (o::l)=cV o++cVs l:=by simp [cVs]
theorem WW:∀ {l:List (Option (Int × Nat))} {i:Nat} (p:Int × Nat),i<l.length→(cVs l).take (i*3)++(dDy false p.1 p.2).map C.d++(cVs l).drop (i*3+3)=cVs (l.set i (some p))
 | [],i,p,h=>by simp at h
 | q::l,0,p,h=>by
  rw [Hx,Nat.zero_mul,List.take_zero,List.nil_append,Nat.zero_add,List.set_cons_zero,Hx,show (3:Nat)=(cV q).length from (Tq q).symm,List.drop_left]
  rfl
 | q::l,i+1,p,h=>by
  have ih:=WW (l:=l) (i:=i) p (by simpa using h)
  rw [Hx,List.set_cons_succ,Hx,←ih,show (i+1)*3+3=(cV q).length+(i*3+3) by rw [Tq];omega,←List.drop_drop,List.drop_left,show (i+1)*3=(cV q).length+i*3 by rw [Tq];omega,List.take_length_add_append]
  simp
theorem Acx (n:Nat):ES (madeCells (Value.agg #[.bool false,.slice none 0 0,.int .i64 0]).cells (n*3)).toList=cVs (List.replicate n none):=by
 have h1:∀ a:Nat,(madeCells (Value.agg #[.bool false,.slice none 0 0,.int .i64 0]).cells a).toList=(List.range a).map (fun j=>#[Value.bool false,.slice none 0 0,.int .i64 0][j % 3]!):=fun a=>by
  unfold madeCells
  rw [Array.toList_map,Array.toList_range]
  rfl
 rw [h1]
 induction n with
 | zero=>rfl
 | succ n ih =>
  rw [show (n+1)*3=n*3+1+1+1 by omega,List.range_succ,List.range_succ,List.range_succ,List.replicate_succ']
  simp only [List.map_append,ES] at ih ⊢
  rw [ih]
  simp only [cVs,List.map_append,List.flatten_append,List.map_cons,List.map_nil,show n*3 % 3=0 by omega,show (n*3+1) % 3=1 by omega,show (n*3+1+1) % 3=2 by omega,List.append_assoc]
  rfl
theorem Iz {n:Nat} {l:List (Option (Int × Nat))}:∀ c∈cVs l,C.bel n c:=fun c hc=>by
 obtain ⟨cs,hcs,hc⟩:=List.mem_flatten.1 hc
 obtain ⟨o,_,rfl⟩:=List.mem_map.1 hcs
 cases o with
 | none=>simp [cV] at hc;rcases hc with rfl|rfl|rfl <;> trivial
 | some p=>exact Eb c hc
theorem Mx (x:Int) (d:Nat):∀ u∈dDy false x d,FB u:=fun u hu=>by
 simp only [dDy,List.mem_cons,List.not_mem_nil,or_false] at hu
 rcases hu with rfl|rfl|rfl
 ·exact .val _
 ·refine .row fun u hu=>?_
  obtain ⟨v,_,rfl⟩:=List.mem_map.1 hu
  exact .val _
 ·exact .val _
theorem AeG {t:Bool} {H:List Ob} (o:Option (Int × Nat)):Bv (Gq t H) (cV o) (dyP (o.getD (0,0))):=by
 cases o with
 | none =>
  show Bv (Gq t H) _ (dDy false 0 0)
  have e:dDy false 0 0=[.val (.bool false),.row false 1 0 [],.val (.int .i64 0)]:=A.agg.inj Iy
  rw [e]
  exact .cons_ (.d fun _=>.val _) (.cons_ .nil (.cons_ (.d fun _=>.val _) .nil_))
 | some p=>exact Bv.map_l.2 ⟨rfl,fun j a b ha hb=>by
   have:(dDy false p.1 p.2)[j]?=some b:=hb
   rw [ha] at this
   cases this
   exact .d fun _=>Mx _ _ a (List.mem_of_getElem? ha)⟩
theorem Acy {t:Bool} {H:List Ob} (l:List (Option (Int × Nat))):Bv (Gq t H) (cVs l) (AN dyP (gV l)):=by
 induction l with
 | nil=>exact Bv.nil_
 | cons o l ih =>
  rw [Hx]
  exact (AeG o).app ih
theorem WX (l:List (Option (Int × Nat))):(gV l).length=l.length:=List.length_map ..
theorem Acz {t:Bool} {H:List Ob} {id ty n:Nat} {c:C} {y:D} {l:List (Option (Int × Nat))} (hc:c=.own id n) (hH:H[id]?=some (.row ty 3 n (cVs l))) (hy:y=.row t 3 n (AN dyP (gV l))):Gq t H c y:=IO hc hH hy (Acy l)
theorem AcA {t:Bool} {H:List Ob} {id ty n:Nat} {c:C} {y:D} {l:List (Int × Nat)} (hc:c=.own id n) (hH:H[id]?=some (.row ty 3 n ((AN dyP l).map C.d))) (hy:y=.row t 3 n (AN dyP l)):Gq t H c y :=
 IO hc hH hy (Bv.map_l.2 ⟨rfl,fun j a b ha hb=>by
  rw [ha] at hb
  cases hb
  exact .d fun _=>Ip (f:=dyP) (fun p=>Mx _ _) l a (List.mem_of_getElem? ha)⟩)
section
variable {P:Program} {G:World→Prop} {o:Oper} {F:Frm} {H:List Ob}
theorem Zo {t e:TypeId} {x y:Operand} {by_ n:Nat} {k k':IntKind} (ho:o.op=.makeSlice t x y) (hx:F.ev x=.one (.d (.val (.int k (n:Int))))) (hy:F.ev y=.one (.d (.val (.int k' (n:Int))))) (ht:TyS P t e 3) (hz:TyZ P e (.agg #[.bool false,.slice none 0 0,.int .i64 0]) 3 by_) (hn:n≤1000000) (hby:by_≤1000) :
  Bs P G o F H (.one (.own H.length n)) [.row e 3 n (cVs (List.replicate n none))]:=by
 have:=CR (P:=P) (G:=G) (H:=H) ho hx hy ht hz hn hby
 rwa [Acx] at this
theorem WY {t ty:TypeId} {x y:Operand} {id n i:Nat} {l l':List (Option (Int × Nat))} {p:Int × Nat} (ho:o.op=.store t x y) (hx:F.ev x=.one (.ref id (i*3) (some n))) (hH:H[id]?=some (.row ty 3 n (cVs l))) (hy:F.ev y=.agg ((dDy false p.1 p.2).map C.d)) (hty:TyK P t true 3) (hi:i<l.length) (hl:l.set i (some p)=l'):TOk P G o F H .any (H.set id (.row ty 3 n (cVs l'))):=by
 have h3:((dDy false p.1 p.2).map C.d).length=3:=rfl
 have:=PP (P:=P) (G:=G) ho hx hH rfl (show EB (F.ev y)=some ((dDy false p.1 p.2).map C.d) by rw [hy];rfl) hty rfl (by rw [h3];show i*3+3≤(cVs l).length;rw [Acw];omega)
 rw [h3] at this
 simp only [Ob.cs,Ob.setC] at this
 rw [WW p hi,hl] at this
 exact this
end
def LB:Nat:=4096
def LC:Nat:=9000
theorem lb_c:LB≤LC:=by decide
theorem AcB {p:Int × Nat} (hn:Nf p.1 p.2) (h:Dd p=false):Sm p LB LB:=by
 have h1:¬ 4096<max (CD p.1.natAbs) p.2:=of_decide_eq_false h
 exact ⟨hn,Gl.1 (by unfold LB;omega),by unfold LB;omega⟩
def WZ (vs:List (Option (Int × Nat))) (y:Bk):List (Int × Nat):=if y.kind=0 then [] else y.args.map fun a=>(vs[a.toNat]?.getD none).getD (0,0)
def tkV (ps:List Prt) (bs:List Bk) (ins:List Int) (vs:List (Option (Int × Nat))) (i:Nat):Int × Nat:=match bs[i]? with
 | some y=>AeD y (WZ vs y) ps ins
 | none=>(0,0)
def ordV (ps:List Prt) (bs:List Bk) (ins:List Int) (vs:List (Option (Int × Nat))) (l:List Nat):List (Option (Int × Nat)):=l.foldl (fun v i=>v.set i (some (tkV ps bs ins v i))) vs
def delV (dl:List Nat) (st:List (Int × Nat)) (vs:List (Option (Int × Nat))):List (Option (Int × Nat)):=(dl.zip st).foldl (fun v p=>v.set p.1 (some p.2)) vs
def valS (ps:List Prt) (bs:List Bk) (st:List (Int × Nat)) (ins:List Int) (t:Nat):List (Option (Int × Nat)):=ordV ps bs ins (delV (CA bs) st (List.replicate bs.length none)) ((Dc bs).take t)
def valN (ps:List Prt) (bs:List Bk) (st:List (Int × Nat)) (ins:List Int) (t:Nat):Int × Nat:=tkV ps bs ins (valS ps bs st ins t) ((Dc bs)[t]?.getD 0)
def Xa (ps:List Prt) (bs:List Bk) (st:List (Int × Nat)) (ins:List Int):Bool:=st.any Dd || (List.range (Dc bs).length).any fun t=>Dd (valN ps bs st ins t)
def valE (ps:List Prt) (bs:List Bk) (st:List (Int × Nat)) (ins:List Int):List (Int × Nat):=gV (valS ps bs st ins (Dc bs).length)
def Ago (bs:List Bk) (i:Nat):Nat:=(((bs[i]?.map Bk.args).getD [])[0]?.getD 0).toNat
def AcC (ps:List Prt) (bs:List Bk) (st:List (Int × Nat)) (ins:List Int):List (Int × Nat):=(CA bs).map fun i=>((valE ps bs st ins)[Ago bs i]?).getD (0,0)
structure Has (vs:List (Option (Int × Nat))) (D:Nat→Prop):Prop where
 at_:∀ i,D i→∃ p,vs[i]?=some (some p)∧Sm p LB LB
theorem Sm.zero (n d:Nat):Sm (0,0) n d:=⟨⟨by decide,fun h=>absurd rfl h⟩,Nat.two_pow_pos n,Nat.zero_le d⟩
theorem Cz {l:List (Int × Nat)} {n d:Nat} (h:∀ p∈l,Sm p n d) (k:Nat):Sm (l[k]?.getD (0,0)) n d:=by
 cases hk:l[k]? with
 | none=>exact Sm.zero n d
 | some p=>exact h p (List.mem_of_getElem? hk)
theorem Tr {ps:List Prt} {bs:List Bk} {os:List Int} (h:BN ps bs os=0) {i:Nat} {y:Bk} (hy:bs[i]?=some y) (hk:y.kind=11):EW y.vn y.ve∧EW y.un y.ue∧Cl (Ai y.vn 0 y.ve).1 (Ai y.vn 0 y.ve).2 (Ai y.un 0 y.ue).1 (Ai y.un 0 y.ue).2≤0:=by
 have h1:=RL h hy
 have ha:=LG h hy
 have hv:=Tp h hy (by unfold La;rw [hk];rfl)
 unfold BC at h1
 rw [if_neg (by omega),if_neg (not_not_intro ha.2.1)] at h1
 by_cases h3:AH (y.args.map (Lo (Dv ps.length bs.length y.kind)))=0
 ·rw [if_neg (not_not_intro h3)] at h1
  by_cases h4:BF y.vn y.ve (La y.kind)=0
  ·rw [if_neg (not_not_intro h4)] at h1
   by_cases h5:BF y.un y.ue (EJ y.kind)=0
   ·rw [if_neg (not_not_intro h5)] at h1
    have hc:EJ y.kind=true:=by unfold EJ;rw [hk];rfl
    rw [hc] at h5
    have hu:=Mr h5
    refine ⟨hv,hu,?_⟩
    rw [WJ (Gi hv.2.2.1 hv.2.2.2) (Gi hu.2.2.1 hu.2.2.2)]
    by_cases h6:0<Ml y.vn y.ve y.un y.ue
    ·rw [if_pos ⟨hc,h6⟩] at h1;cases h1
    ·exact Int.not_lt.1 h6
   ·rw [if_pos h5] at h1;exact absurd h1 h5
  ·rw [if_pos h4] at h1;exact absurd h1 h4
 ·rw [if_pos h3] at h1;cases h1
theorem Zp {ps:List Prt} {bs:List Bk} {os:List Int} (h:BN ps bs os=0) {i:Nat} {y:Bk} (hy:bs[i]?=some y):y.kind=0∨y.kind=1∨y.kind=2∨y.kind=3∨y.kind=4∨y.kind=5∨y.kind=6∨y.kind=7∨y.kind=8∨y.kind=9∨y.kind=10∨y.kind=11:=by
 have:=(LG h hy).1
 unfold AU at this
 (repeat' split at this) <;> omega
def rngB (ps:List Prt) (ins:List Int) (i:Nat):Bool:=match ps[i]?,ins[i]? with
 | some p,some z=>decide (p.lo≤z∧z≤p.hi)
 | _,_=>true
def inOk (ps:List Prt) (ins:List Int):Bool:=(List.range ins.length).all (rngB ps ins)
def stdS (bs:List Bk) (t:Nat) (i:Nat):Prop:=(i<bs.length∧BU bs i=2)∨i∈(Dc bs).take t
structure Tick (ps:List Prt) (bs:List Bk) (ins:List Int) (vs:List (Option (Int × Nat))) (y:Bk):Prop where
 hk:y.kind=0∨y.kind=1∨y.kind=3∨y.kind=4∨y.kind=5∨y.kind=6∨y.kind=7∨y.kind=8∨y.kind=9∨y.kind=10∨y.kind=11
 args:y.kind≠0→∀ (k:Nat) (a:Int),y.args[k]?=some a→∃ p,0≤a∧a.toNat<bs.length∧vs[a.toNat]?=some (some p)∧(WZ vs y)[k]?=some p
 len:y.args.length≤2
 hl:∀ k:Nat,(k=0∧y.kind≠0∧y.kind≠1∨k=1∧(y.kind=3∨y.kind=4∨y.kind=7∨y.kind=8∨y.kind=9))→∃ p i,(WZ vs y)[k]?=some p∧y.args[k]?=some ((i:Nat):Int)∧(gV vs)[i]?=some p
 hs:∀ p∈WZ vs y,Sm p LB LB
 hin:y.kind=0→∃ (i:Nat) (z:Int) (pp:Prt),y.args[0]?=some (i:Int)∧ins[i]?=some z∧ps[i]?=some pp ∧ -9223372036854775808≤z∧z<9223372036854775808 ∧ -100≤pp.fr∧pp.fr≤100
 hsv:(y.kind=1∨y.kind=6∨y.kind=11)→EW y.vn y.ve
 hsu:y.kind=11→EW y.un y.ue
 hcl:y.kind=11→Cl (Ai y.vn 0 y.ve).1 (Ai y.vn 0 y.ve).2 (Ai y.un 0 y.ue).1 (Ai y.un 0 y.ue).2≤0
 sm:Sm (AeD y (WZ vs y) ps ins) LC LC
theorem Fo {l:List Nat} {t j:Nat} (h:l[t]?=some j):(Cs l)[t]?=some (j:Int):=by simp [Cs,h]
def okQ {α:Type} (e:Int) (l:List α):List α:=if e=0 then l else []
def aDys (l:List (Int × Nat)):A:=.one (.row false 3 l.length (AN dyP l))
def rvP (r:Rv):Int × Nat:=(r.rw.x,r.rw.d)
def Xb (rs:List Rv):D:=.row false 3 rs.length (AN (dRv false) rs)
theorem Lc {rs:List Rv} {k:Nat} {r:Rv} (h:rs[k]?=some r):((AN (dRv false) rs).drop (k*3)).take 3=dRv false r:=Fh (f:=dRv false) (s:=3) (fun _=>rfl) h
def stE (ps:List Prt) (bs:List Bk) (os:List Int) (rs:List Rv) (ins:List Int):Int :=
 if BN ps bs os≠0 then BN ps bs os else if rs.length≠(CA bs).length then 11 else if rs.all (fun r=>vdB r.rw)=false then 2
 else if ins.length≠ps.length then 11 else if inOk ps ins=false then 3 else if Xa ps bs (rs.map rvP) ins=true then 4 else 0
theorem Xc {α:Type} {p:α→Prop} {l:List α} {k:Nat} {x:α} (h:∀ q∈l.take k,p q) (hx:l[k]?=some x) (hp:p x):∀ q∈l.take (k+1),p q:=fun q hq=>by
 rw [List.take_add_one,hx] at hq
 rcases List.mem_append.1 hq with hq|hq
 ·exact h q hq
 ·simp only [Option.toList_some,List.mem_cons,List.not_mem_nil,or_false] at hq
  rw [hq];exact hp
theorem AcD {p:Nat→Prop} {k:Nat} (h:∀ i,i<k→p i) (hk:p k):∀ i,i<k+1→p i:=fun i hi=>by
 by_cases hik:i=k
 ·rw [hik];exact hk
 ·exact h i (by omega)
theorem Xd {bs:List Bk} {k i:Nat} (h:(CA bs)[k]?=some i):i<bs.length∧BU bs i=2:=by
 have:=List.mem_of_getElem? h
 unfold CA at this
 rw [List.mem_filter,List.mem_range] at this
 exact ⟨this.1,by simpa using this.2⟩
def isW (o:Oper):Bool:=match o.op with
 | .store ..=>true
 | .call c=>match c.callee with
  | .builtin .append=>true
  | _=>false
 | _=>false
def chainW (md:Region.Mode) (ops:Array Oper):Bool:=(List.range ops.size).all fun i=>match ops[i]? with
 | none=>true
 | some oi=>!isW oi || (List.range i).all fun j=>match ops[j]? with
  | none=>true
  | some oj=>!isW oj || (oi.after.any fun e=>Region.binds md e && decide (e.on=j)) || (List.range i).any fun k=>decide (j<k) && (match ops[k]? with|some ok=>isW ok|none=>false)
def Agp (md:Region.Mode) (ops:Array Oper) (i:Nat):Bool:=match ops[i]? with
 | none=>false
 | some oi=>(List.range ops.size).all fun j=>match ops[j]? with
  | none=>true
  | some oj=>!isW oj || decide (i=j) || (decide (i<j) && ((oj.after.any fun e=>Region.binds md e && (decide (e.on=i) || (match ops[e.on]? with|some om=>om.after.any fun e=>Region.binds md e && decide (e.on=i)|none=>false))) || (List.range j).any fun k=>decide (i<k) && (match ops[k]? with|some ok=>isW ok|none=>false))) || (decide (j<i) && ((oi.after.any fun e=>Region.binds md e && decide (e.on=j)) || (List.range i).any fun k=>decide (j<k) && (match ops[k]? with|some ok=>isW ok|none=>false)))
section
variable (P:Program) (G:World→Prop) (ops:Array Oper)
def ChM:Nat→List Oper→Frm→List Ob→(Frm→List Ob→Prop)→Prop
 | _,[],F,H,K=>K F H
 | i,o::l,F,H,K=>o.guard=none∧((isW o=false∧∃ x,((∀ H',Bs P G o F H' x [])∨(Agp .any ops i=true∧Bs P G o F H x []))∧ChM (i+1) l (F.put o.dst x) H K)∨(isW o=true∧∃ x H',TOk P G o F H x H'∧ChM (i+1) l (F.put o.dst x) H' K))
end
section
variable {P:Program} {G:World→Prop} {ops:Array Oper}
structure HInvM (b0 N:Nat) (w0:World) (S0:SD) (ops:Array Oper) (Fs:Nat→Frm) (Hs:Nat→List Ob) (listed:Array Bool) (a:Act) (m:Mm):Prop where
 H:∃ p,p≤ops.size∧(∀ (i:Nat) (o:Oper),ops[i]?=some o→isW o=true→(i<p ↔ listed.getD i true=true))∧m.H=Hs p
 cx:Cx b0 m
 tot:Tot m
 frame:∀ t,(∀ (i:Nat) (o:Oper),ops[i]?=some o→listed.getD i true=false→o.dst≠some t)→FG m (Fs ops.size t) (a.tmps.getD t undef)
 size:a.tmps.size=N
 defers:a.defers=S0.ds
 below:Below b0 w0 m.w
 base:b0≤w0.heap.size
 S:∀ b,m.S false b→S0 false b∨b0≤b
 T:m.S true=S0 true
 ls:listed.size=ops.size
 dep:∀ (i:Nat) (o:Oper),ops[i]?=some o→listed.getD i true=true→∀ e∈o.after,Region.binds .any e=true→listed.getD e.on true=true
end
section
variable {P:Program}
def Aaq (P:Program) (g:FuncId) (vs:List Value) (p:Int→Bool) (zs:List Int) (w:World):Prop:=∀ w',Below w.heap.size w w'→∀ z∈zs,Calls P g (Value.int .i64 z::vs).toArray w' fun e w2=>e=.returned (.bool (p z))∧Below w'.heap.size w' w2
theorem fn_G {g:FuncId} {vs:List Value} {p:Int→Bool} {zs:List Int}:∀ w w',Below w.heap.size w w'→Aaq P g vs p zs w→Aaq P g vs p zs w':=fun _ _ hb h w2 hb2=>h w2 (hb.trans (hb2.mono hb.size))
variable {o:Oper} {F:Frm} {H:List Ob}
theorem NL {g : FuncId} {vs : List Value} {p : Int → Bool} {zs : List Int} {fn : Func} {c : Code} {r x : Operand} {ts : Array TypeId} {z : Int} (hf : P.funcs[g]? = some fn) (hz : z ∈ zs) (hn : (fn.name == "runtime.NumGoroutine") = false := by kernel_rfl) (hb : fn.body = some c := by with_unfolding_all exact rfl)
  (ho:o.op=.call { callee:=.value r,args:=#[x],argTypes:=ts }:=by with_unfolding_all exact rfl) (hr:F.ev r=.one (.d (.val (.func (.func g) #[] vs.toArray))):=by with_unfolding_all exact rfl) (hx:F.ev x=.one (.d (.val (.int .i64 z))):=by with_unfolding_all exact rfl) :
  Bs P (Aaq P g vs p zs) o F H (.one (.d (.val (.bool (p z))))) []:=by
 intro b0 m a hp hcx hg hb0 _ hor K Q hK
 have er:=DI (m:=m) (v:=a.eval r) (by rw [←hr];exact BK hor (by rw [ho];simp [Op.operands,Call.operands]))
 have ex:=DI (m:=m) (v:=a.eval x) (by rw [←hx];exact BK hor (by rw [ho];simp [Op.operands,Call.operands]))
 unfold Oper.wp execOp
 simp only [ho,resolve,er,Deferred.ofValue,Sem.run_bind,Sem.run_pure,Result.andThen_ok,invoke]
 rw [Hh hf hn hb]
 rw [Oper.upon_enter]
 have he:((#[]:Array Value)++#[x].map a.eval++vs.toArray)=(Value.int .i64 z::vs).toArray:=Array.ext' (by simp [ex])
 rw [he]
 refine (hg m.w (Below.refl _ _) z hz).mono fun e w' ⟨hev,hbel⟩=>?_
 subst hev
 exact hK _ w' [] ⟨rfl,hbel,fun k e hk=>by simp at hk,List.Pairwise.nil⟩ (BE.val rfl)
theorem DV {f g:FuncId} {fn:Func} {c:Code} {x y:Operand} {ts:Array TypeId} {t:Bool} {p:Int→Bool} {zs:List Int} {rs:List (Nat × Nat × Option Nat)} {cargs:List A} {b:Bool} {Gt:World→Prop} (hG:∀ w w',Below w.heap.size w w'→Gt w→Gt w') (hf:P.funcs[f]?=some fn) (h:∀ vs,CV P (Aaq P g vs p zs) f [.one (BQ t zs),.one (.val (.func (.func g) #[] vs.toArray))] [aB b]) (hC:∀ z∈zs,CV P Gt g (aI z::cargs) [aB (p z)])
  (hn : (fn.name == "runtime.NumGoroutine") = false := by kernel_rfl) (hb : fn.body = some c := by with_unfolding_all exact rfl)
  (ho:o.op=.call { callee:=.value (.func f),args:=#[x,y],argTypes:=ts }:=by with_unfolding_all exact rfl) (hx:F.ev x=.one (.d (BQ t zs)):=by with_unfolding_all exact rfl) (hy:F.ev y=.one (.clo (.func g) rs):=by with_unfolding_all exact rfl)
  (hcl:Bv (fun (p:Nat × Nat × Option Nat) y=>Lk true H (.one (.ref p.1 p.2.1 p.2.2)) y) rs cargs:=by with_unfolding_all first|((repeat' first|exact AC rfl rfl|refine Ay rfl rfl ?_ ?_|exact PR rfl) <;> fail)|fail):Bs P Gt o F H (.one (.d (.val (.bool b)))) []:=by
 intro b0 m a hp hcx hg hb0 _ hor K Q hK
 rw [List.append_nil] at hp
 have h1:=BK (F:=F) hor (x:=x) (by rw [ho];simp [Op.operands,Call.operands])
 have h2:=BK (F:=F) hor (x:=y) (by rw [ho];simp [Op.operands,Call.operands])
 rw [hx] at h1
 rw [hy] at h2
 obtain ⟨vs,hve,hvl⟩:=h2
 let Sx:Eu:=fun t b=>m.S t b∨(t=true∧∃ id e,m.E id=some e∧e.own=some b)
 have hlt:∀ t b,Sx t b→b<m.w.heap.size:=fun t b hb=>by
  rcases hb with hb|⟨_,id,e,he,hown⟩
  ·exact hcx.lt t b hb
  ·exact (Et.lt (hcx.each id e he).1 hown).2
 have hc':Bv (EN m.w Sx) cargs vs:=⟨hcl.1.symm.trans hvl.1,fun j y v hy hv=>by
   obtain ⟨p,hpj⟩:∃ p,rs[j]?=some p:=⟨_,List.getElem?_eq_getElem (by have:=(List.getElem?_eq_some_iff.1 hv).1;have:=hvl.1;omega)⟩
   exact Lk.rel (x:=.one (.ref p.1 p.2.1 p.2.2)) hcx (fun b hb=>.inl hb) (fun _ b hb=>.inl hb) (fun id e g he hg=>.inr ⟨rfl,id,e,he,hg⟩) ((hcl.2 j p y hpj hy).pre hp) (hvl.2 j p v hpj hv)⟩
 have hfn:Aaq P g vs p zs m.w:=fun w' hb' z hz =>
  (hC z hz w' Sx (Value.int .i64 z::vs) (hG _ _ hb' hg) (fun t b hb=>Nat.lt_of_lt_of_le (hlt t b hb) hb'.size) (.cons_ (BE.val rfl) (hc'.imp fun _ _=>EN.mono (fun _ _ h=>h) fun t b hb=>hb'.block b (hlt t b hb)))).mono fun e w2 ⟨v,he,hr,hbl⟩=>by
   have h4:BE w2 _ (dB (p z)) v:=hr
   cases h4
   exact ⟨he,hbl⟩
 have hcalls:=h vs m.w Sx [a.eval x,.func (.func g) #[] vs.toArray] hfn hlt (.cons_ (BE.mono (fun t b hb=>.inl hb) (fun _ _ _=>rfl) h1) (.cons_ (BE.val rfl) .nil_))
 unfold Oper.wp execOp
 simp only [ho,resolve,Act.eval,Deferred.ofValue,Sem.run_bind,Sem.run_pure,Result.andThen_ok,invoke]
 rw [Hh hf hn hb]
 rw [Oper.upon_enter]
 have he:((#[]:Array Value)++#[x,y].map a.eval++#[])=[a.eval x,.func (.func g) #[] vs.toArray].toArray:=Array.ext' (by simp [hve])
 rw [he]
 refine hcalls.mono fun e w' ⟨v,hev,hr,hbel⟩=>?_
 subst hev
 have h4:BE w' _ (dB b) v:=hr
 cases h4
 exact hK _ w' [] ⟨rfl,hbel,fun k e hk=>by simp at hk,List.Pairwise.nil⟩ (BE.val rfl)
end
def Zq (p:Int→Bool):List Int→Nat→Int
 | [],_ => -1
 | z::l,k=>if p z=true then (k:Int) else Zq p l (k+1)
theorem OO {p:Int→Bool} {zs:List Int}:∀ {k:Nat},(∀ z∈zs.take k,p z=false)→k≤zs.length→Zq p zs 0=Zq p (zs.drop k) k
 | 0,_,_=>rfl
 | k+1,h,hk=>by
  obtain ⟨z,hz⟩:∃ z,zs[k]?=some z:=⟨_,List.getElem?_eq_getElem (by omega)⟩
  rw [OO (k:=k) (fun z hz=>h z (by rw [List.take_add_one];exact List.mem_append_left _ hz)) (by omega),List.drop_eq_getElem_cons (by omega)]
  have he:zs[k]=z:=by obtain ⟨h1,h2⟩:=List.getElem?_eq_some_iff.1 hz;exact h2
  rw [he]
  have:=h z (by rw [List.take_add_one,hz];simp)
  show (if p z=true then (k:Int) else Zq p (zs.drop (k+1)) (k+1))=_
  rw [this]
  rfl
theorem Xe {p:Int→Bool}:∀ (zs:List Int) (k:Nat),decide (0≤Zq p zs k)=zs.any p
 | [],_=>rfl
 | z::l,k=>by
  unfold Zq
  rw [List.any_cons]
  cases h:p z with
  | true=>simp
  | false=>simpa using Xe l (k+1)
theorem Zr {g : FuncId} {fn : Func} {c : Code} (hf : Tryz.prog.funcs[g]? = some fn) (hn : (fn.name == "runtime.NumGoroutine") = false) (hbd : fn.body = some c) (t : Bool) (vs : List Value) (p : Int → Bool) (zs : List Int) (hl : zs.length ≤ 1000000) : CV Tryz.prog (Aaq Tryz.prog g vs p zs) 253 [.one (BQ t zs), .one (.val (.func (.func g) #[] vs.toArray))] [aI (Zq p zs 0)] := by
 refine Abe fn_G Tryz.func253 rfl Tryz.ntmps253 (Nat.le_of_ble_eq_true rfl) ?_
 repeat' (with_reducible first|refine qq ?_|(refine Tx 0 ?_;refine Ja ?_)|(refine Tx 1 ?_;refine Jm ?_;refine jN ?_;refine Jm ?_))
 refine CF (F':=ofL [(0,vd (BQ t zs)),(1,vd (.val (.func (.func g) #[] vs.toArray))),(7,vi zs.length),(8,vi ((0:Nat)))]) (H':=[]) (BM _ 0 ?_ ?_ ?_) ?_
 ·rfl
 ·exact mB rfl rfl
 ·exact trivial
 refine Bp (fun n Fr H=>∃ k:Nat,k≤zs.length∧n=zs.length - k∧(∀ z∈zs.take k,p z=false)∧Fr=ofL [(0,vd (BQ t zs)),(1,vd (.val (.func (.func g) #[] vs.toArray))),(7,vi zs.length),(8,vi ((k:Nat)))]∧H=[]) (n0:=zs.length) ⟨0,Nat.zero_le _,rfl,(fun z hz=>by simp at hz),rfl,rfl⟩ ?_
 rintro n Fr H ⟨k,hk,rfl,hall,rfl,rfl⟩
 by_cases hlt:k<zs.length
 case pos =>
  obtain ⟨z,hz⟩:∃ z,zs[k]?=some z:=⟨_,List.getElem?_eq_getElem hlt⟩
  have hzm:=List.mem_of_getElem? hz
  have hsk:=OO hall hk
  rw [List.drop_eq_getElem_cons hlt,(List.getElem?_eq_some_iff.1 hz).2,show Zq p (z::zs.drop (k+1)) k=if p z=true then (k:Int) else Zq p (zs.drop (k+1)) (k+1) from rfl] at hsk
  cases hp:p z
  case true =>
   rw [hp,if_pos rfl] at hsk
   repeat' (with_reducible first|refine qq ?_|(refine Tx 2 ?_;refine Jo xLt ?_)|(refine Tx 3 ?_;refine Jm ?_;refine Ja ?_)|(refine Tx 4 ?_;refine Jm ?_;refine Jm ?_;refine Jm ?_;refine Jo (xIr Ab (Ak hz)) ?_;refine jD ?_;refine Jo (by exact (hp ▸ NL (p:=p) hf hzm hn hbd)) ?_)|(refine Tx 5 ?_;refine Jm ?_;refine Ja ?_))
   exact Ap rfl (.cons_ (MT rfl hsk.symm) .nil_)
  rw [hp,if_neg (by decide)] at hsk
  repeat' (with_reducible first|refine qq ?_|(refine Tx 2 ?_;refine Jo xLt ?_)|(refine Tx 3 ?_;refine Jm ?_;refine Ja ?_)|(refine Tx 4 ?_;refine Jm ?_;refine Jm ?_;refine Jm ?_;refine Jo (xIr Ab (Ak hz)) ?_;refine jD ?_;refine Jo (by exact (hp ▸ NL (p:=p) hf hzm hn hbd)) ?_)|(refine Tx 6 ?_;refine Jo xAd ?_;refine Jm ?_))
  refine ⟨_,_,BM _ 0 ?_ ?_ ?_,_,by omega,k+1,by omega,rfl,Xc hall hz hp,rfl,rfl⟩
  ·rfl
  ·exact mB rfl rfl
  ·exact trivial
 obtain rfl:k=zs.length:=by omega
 have hsk:=OO hall hk
 rw [List.drop_length] at hsk
 repeat' (with_reducible first|refine qq ?_|(refine Tx 2 ?_;refine Jo xLt ?_)|(refine Tx 7 ?_;refine Ja ?_))
 exact Ap rfl (.cons_ (MT rfl hsk.symm) .nil_)
theorem RM {g : FuncId} {fn : Func} {c : Code} (hf : Tryz.prog.funcs[g]? = some fn) (hn : (fn.name == "runtime.NumGoroutine") = false) (hbd : fn.body = some c) (t : Bool) (vs : List Value) (p : Int → Bool) (zs : List Int) (hl : zs.length ≤ 1000000) : CV Tryz.prog (Aaq Tryz.prog g vs p zs) 213 [.one (BQ t zs), .one (.val (.func (.func g) #[] vs.toArray))] [aB (zs.any p)] := by
 refine Abe fn_G Tryz.func213 rfl Tryz.ntmps213 (Nat.le_of_ble_eq_true rfl) ?_
 have IX:=Zr hf hn hbd t vs p zs hl
 rw [←Xe zs 0]
 repeat' (with_reducible first|refine qq ?_|(refine Tx 0 ?_;refine Ja ?_)|(refine Tx 1 ?_;refine Jm ?_;refine Jm ?_;refine Jo (xCl Tryz.func253 (IX)) ?_;refine Jo xGe ?_;refine Ja ?_))
 exact Ap rfl (.cons_ (BL rfl rfl) .nil_)
def GQ:Nat:=65536
def gv (p:Int × Nat):Int:=p.1*2 ^ (GQ - p.2)
theorem Xf (n:Nat):(2:Int) ^ n≠0:=Int.ne_of_gt (Int.pow_pos (by decide))
theorem BR (n:Nat):(0:Int)<2 ^ n:=Int.pow_pos (by decide)
theorem OP {p:Int × Nat} (h:p.2≤GQ):p.1*2 ^ GQ=gv p*2 ^ p.2:=Acr p h
theorem Nf.le {x:Int} {d:Nat} (h:Nf x d):d≤GQ:=h.1
theorem Ur {m:Int} {d:Nat} (h:d≤GQ):gv (nf m d)=m*2 ^ (GQ - d):=by
 have e:=Yf m d
 have l:=AaJ m d
 refine Int.eq_of_mul_eq_mul_right (Xf d) ?_
 unfold gv
 rw [Int.mul_right_comm,e,Int.mul_assoc,Int.mul_assoc,←Int.pow_add,←Int.pow_add]
 congr 2
 omega
theorem Ts (p:Int × Nat):gv (-p.1,p.2) = -gv p:=Int.neg_mul ..
theorem Fp:gv (0,0)=0:=Int.zero_mul _
theorem Qp (p:Int × Nat):gv (((p.1.natAbs:Nat):Int),p.2)=((gv p).natAbs:Int):=by
 unfold gv
 rw [Int.natAbs_mul,Int.natCast_mul,Int.natAbs_pow]
 congr 1
theorem EF {p q:Int × Nat} (hp:p.2≤GQ) (hq:q.2≤GQ):gv (Cw p.1 p.2 q.1 q.2)=gv p+gv q:=by
 unfold Cw
 rw [Ur (by omega),Int.add_mul,Int.mul_assoc,Int.mul_assoc,←Int.pow_add,←Int.pow_add,show max p.2 q.2 - p.2+(GQ - max p.2 q.2)=GQ - p.2 by omega,show max p.2 q.2 - q.2+(GQ - max p.2 q.2)=GQ - q.2 by omega]
 rfl
theorem Xg {p q:Int × Nat} (h:p.2+q.2≤GQ):gv (Hw p.1 p.2 q.1 q.2)*2 ^ GQ=gv p*gv q:=by
 unfold Hw
 rw [Ur h]
 unfold gv
 have e1:p.1*q.1*2 ^ (GQ - (p.2+q.2))*2 ^ GQ=p.1*q.1*2 ^ (GQ - (p.2+q.2)+GQ):=by rw [Int.mul_assoc,←Int.pow_add]
 have e2:p.1*2 ^ (GQ - p.2)*(q.1*2 ^ (GQ - q.2))=p.1*q.1*2 ^ (GQ - p.2+(GQ - q.2)):=by rw [Int.pow_add];simp only [Int.mul_assoc,Int.mul_left_comm,Int.mul_comm]
 rw [e1,e2]
 congr 2
 omega
theorem Aar {p q:Int × Nat} (hp:p.2≤GQ) (hq:q.2≤GQ):Cl p.1 p.2 q.1 q.2=sgI (gv p - gv q):=WJ (OP hp) (OP hq)
theorem Aas {p q:Int × Nat} (hp:Nf p.1 p.2) (hq:Nf q.1 q.2) (h:gv p=gv q):p=q:=Acq hp hq (OP hp.le) (by rw [h];exact OP hq.le)
theorem My {p q:Int × Nat} (hp:p.2≤GQ) (hq:q.2≤GQ):Cl p.1 p.2 q.1 q.2≤0 ↔ gv p≤gv q:=by
 rw [Aar hp hq,FO]
 by_cases h1:gv p<gv q
 ·rw [if_pos h1];exact ⟨fun _=>Int.le_of_lt h1,fun _=>by decide⟩
 ·rw [if_neg h1]
  by_cases h2:gv q<gv p
  ·rw [if_pos h2];exact ⟨fun h=>absurd h (by decide),fun h=>by omega⟩
  ·rw [if_neg h2];exact ⟨fun _=>by omega,fun _=>by decide⟩
theorem Xh {p q:Int × Nat} (hp:p.2≤GQ) (hq:q.2≤GQ):0≤Cl p.1 p.2 q.1 q.2 ↔ gv q≤gv p:=by
 rw [Aar hp hq,FO]
 by_cases h1:gv p<gv q
 ·rw [if_pos h1];exact ⟨fun h=>absurd h (by decide),fun h=>by omega⟩
 ·rw [if_neg h1]
  by_cases h2:gv q<gv p
  ·rw [if_pos h2];exact ⟨fun _=>by omega,fun _=>by decide⟩
  ·rw [if_neg h2];exact ⟨fun _=>by omega,fun _=>by decide⟩
theorem AeH {p q:Int × Nat} (hp:p.2≤GQ) (hq:q.2≤GQ):EQ p.1 p.2 q.1 q.2=if gv q<gv p then q else p:=by
 unfold EQ
 by_cases h:gv q<gv p
 ·rw [if_pos h,if_pos (Int.not_le.1 fun hc=>by have:=(My hp hq).1 hc;omega)]
 ·rw [if_neg h,if_neg (by have:=(My hp hq).2 (by omega);omega)]
theorem AeI {p q:Int × Nat} (hp:p.2≤GQ) (hq:q.2≤GQ):EH p.1 p.2 q.1 q.2=if gv p<gv q then q else p:=by
 unfold EH
 by_cases h:gv p<gv q
 ·rw [if_pos h,if_pos (Int.not_le.1 fun hc=>by have:=(Xh hp hq).1 hc;omega)]
 ·rw [if_neg h,if_neg (by have:=(Xh hp hq).2 (by omega);omega)]
theorem IT {p q:Int × Nat} (hp:p.2≤GQ) (hq:q.2≤GQ):gv (EQ p.1 p.2 q.1 q.2)=min (gv p) (gv q):=by
 rw [AeH hp hq]
 split <;> omega
theorem Fa {p q:Int × Nat} (hp:p.2≤GQ) (hq:q.2≤GQ):gv (EH p.1 p.2 q.1 q.2)=max (gv p) (gv q):=by
 rw [AeI hp hq]
 split <;> omega
theorem Qq {p:Int × Nat} {n:Nat} (hp:p.2≤GQ) (hn:n≤65536):gv (Ai p.1 p.2 (n:Int))=gv p*2 ^ n:=by
 unfold Ai
 rw [if_neg (by omega),Ur hp,show (max (-65536) (min ((n:Nat):Int) 65536)).toNat=n by omega]
 exact Int.mul_right_comm ..
theorem Qr {p:Int × Nat} {n:Nat} (hp:p.2+n≤GQ) (hn:n≤65536):gv (Ai p.1 p.2 (-(n:Int)))*2 ^ n=gv p:=by
 unfold Ai
 by_cases h0:n=0
 ·subst h0
  rw [if_neg (by omega),Ur (by omega)]
  show p.1*2 ^ (max (-65536) (min (-((0:Nat):Int)) 65536)).toNat*2 ^ (GQ - p.2)*2 ^ 0=gv p
  rw [show (max (-65536) (min (-((0:Nat):Int)) 65536)).toNat=0 by omega,Int.pow_zero,Int.mul_one,Int.mul_one]
  rfl
 ·rw [if_pos (by omega),Ur (by omega),show (-(max (-65536) (min (-(n:Int)) 65536))).toNat=n by omega,Int.mul_assoc,←Int.pow_add]
  unfold gv
  congr 2
  omega
theorem Mz (n:Int):gv (n,0)=n*2 ^ GQ:=rfl
theorem Zs {p:Int × Nat} {den:Nat} (hp:p.2≤GQ) (hd:den≤GQ):gv (BO p.1 p.2 den)≤gv p∧gv p<gv (BO p.1 p.2 den)+2 ^ (GQ - den)∧∃ k:Int,gv (BO p.1 p.2 den)=k*2 ^ (GQ - den):=by
 unfold BO
 by_cases h:p.2≤den
 ·rw [if_pos h]
  show gv p≤gv p∧gv p<gv p+2 ^ (GQ - den)∧∃ k:Int,gv p=k*2 ^ (GQ - den)
  refine ⟨Int.le_refl _,by have:=BR (GQ - den);omega,p.1*2 ^ (den - p.2),?_⟩
  unfold gv
  rw [Int.mul_assoc,←Int.pow_add]
  congr 2
  omega
 ·rw [if_neg h,Ur hd]
  have e:gv p=p.1*2 ^ (GQ - p.2):=rfl
  have hk:(2:Int) ^ (GQ - den)=2 ^ (p.2 - den)*2 ^ (GQ - p.2):=by rw [←Int.pow_add];congr 1;omega
  have h1:=Int.mul_ediv_add_emod p.1 (2 ^ (p.2 - den))
  have h2:=Int.emod_nonneg p.1 (Xf (p.2 - den))
  have h3:=Int.emod_lt_of_pos p.1 (BR (p.2 - den))
  have e2:p.1 / 2 ^ (p.2 - den)*2 ^ (GQ - den)=p.1 / 2 ^ (p.2 - den)*2 ^ (p.2 - den)*2 ^ (GQ - p.2):=by rw [hk,Int.mul_assoc]
  refine ⟨?_,?_,_,rfl⟩
  ·rw [e2,e]
   refine Int.mul_le_mul_of_nonneg_right ?_ (Int.le_of_lt (BR _))
   rw [Int.mul_comm];omega
  ·rw [e2,e,hk,←Int.add_mul]
   refine Int.mul_lt_mul_of_pos_right ?_ (BR _)
   rw [Int.mul_comm (p.1 / _)];omega
abbrev Pq:=Int × Nat
abbrev DD (p q:Pq):Pq:=Cw p.1 p.2 q.1 q.2
abbrev XZ (p:Pq):Pq:=(-p.1,p.2)
abbrev Gv (p:Pq):Pq:=(((p.1.natAbs:Nat):Int),p.2)
abbrev CT (p q:Pq):Pq:=Hw p.1 p.2 q.1 q.2
abbrev Pn (p q:Pq):Pq:=EQ p.1 p.2 q.1 q.2
abbrev FY (p q:Pq):Pq:=EH p.1 p.2 q.1 q.2
abbrev Qs (p q:Pq):Int:=Cl p.1 p.2 q.1 q.2
abbrev GF (p:Pq) (n:Int):Pq:=Ai p.1 p.2 n
abbrev Tt (p:Pq) (n:Nat):Pq:=BO p.1 p.2 n
abbrev Us (p:Pq) (n:Nat):Pq:=XZ (Tt (XZ p) n)
abbrev Iq:=Pq × Pq
def dIw (t:Bool) (a:Iq):List D:=dDy t a.1.1 a.1.2++dDy t a.2.1 a.2.2
def aIw (t:Bool) (a:Iq):A:=.agg (dIw t a)
structure IwS (a:Iq) (n d:Nat):Prop where
 s1:Sm a.1 n d
 s2:Sm a.2 n d
 le:gv a.1≤gv a.2
theorem IwS.more {a:Iq} {n d n' d':Nat} (h:IwS a n d) (h1:n≤n') (h2:d≤d'):IwS a n' d':=⟨h.s1.more h1 h2,h.s2.more h1 h2,h.le⟩
def Fq (a:Iq) (x:Pq):Iq:=(Pn a.1 x,FY a.2 x)
def De:List Pq→Iq
 | []=>((0,0),(0,0))
 | p::l=>l.foldl Fq (p,p)
def Xi (a:Iq):Iq:=(XZ a.2,XZ a.1)
def Ya (a b:Iq):Iq:=(DD a.1 b.1,DD a.2 b.2)
def Zt (a b:Iq):Iq:=Ya a (Xi b)
def Yb (a b:Iq):Iq:=De [CT a.1 b.1,CT a.1 b.2,CT a.2 b.1,CT a.2 b.2]
def FZ (a:Iq) (f:Pq):Iq:=Yb a (f,f)
def Yc (a b:Iq):Iq:=(Pn a.1 b.1,Pn a.2 b.2)
def Xj (a b:Iq):Iq:=(FY a.1 b.1,FY a.2 b.2)
def Qt (a b:Iq):Iq:=De [a.1,a.2,b.1,b.2]
def Qu (a:Iq):Iq:=if a.1.1<0∧0<a.2.1 then ((0,0),(De [Gv a.1,Gv a.2]).2) else De [Gv a.1,Gv a.2]
def OQ (a:Iq) (v u:Pq):Iq:=Yc (Xj a (v,v)) (u,u)
def AeJ (a:Iq) (den:Nat):Iq:=(Tt a.1 den,Us a.2 den)
def iIn (a b:Iq):Bool:=decide (Qs b.1 a.1≤0) && decide (Qs a.2 b.2≤0)
def Gw (a:Iq):Pq:=(Qu a).2
theorem Sm.le {p:Pq} {n d:Nat} (h:Sm p n d):p.2≤GQ:=h.ok.le
section
variable {a b:Iq} {n d:Nat}
theorem Ga {p q:Pq} (hp:Sm p n d) (hq:Sm q n d):gv (De [p,q]).1=min (gv p) (gv q)∧gv (De [p,q]).2=max (gv p) (gv q)∧IwS (De [p,q]) n d:=by
 have e1:gv (Pn p q)=min (gv p) (gv q):=IT hp.le hq.le
 have e2:gv (FY p q)=max (gv p) (gv q):=Fa hp.le hq.le
 refine ⟨e1,e2,Sm.min hp hq,Sm.max hp hq,?_⟩
 show gv (Pn p q)≤gv (FY p q)
 omega
theorem IA {p q r s:Pq} (hp:Sm p n d) (hq:Sm q n d) (hr:Sm r n d) (hs:Sm s n d):gv (De [p,q,r,s]).1=min (min (min (gv p) (gv q)) (gv r)) (gv s)∧gv (De [p,q,r,s]).2=max (max (max (gv p) (gv q)) (gv r)) (gv s)∧IwS (De [p,q,r,s]) n d:=by
 have m1:Sm (Pn p q) n d:=Sm.min hp hq
 have m2:Sm (Pn (Pn p q) r) n d:=Sm.min m1 hr
 have x1:Sm (FY p q) n d:=Sm.max hp hq
 have x2:Sm (FY (FY p q) r) n d:=Sm.max x1 hr
 have e1:gv (Pn (Pn (Pn p q) r) s)=min (min (min (gv p) (gv q)) (gv r)) (gv s):=by rw [IT m2.le hs.le,IT m1.le hr.le,IT hp.le hq.le]
 have e2:gv (FY (FY (FY p q) r) s)=max (max (max (gv p) (gv q)) (gv r)) (gv s):=by rw [Fa x2.le hs.le,Fa x1.le hr.le,Fa hp.le hq.le]
 refine ⟨e1,e2,Sm.min m2 hs,Sm.max x2 hs,?_⟩
 show gv (Pn (Pn (Pn p q) r) s)≤gv (FY (FY (FY p q) r) s)
 omega
theorem IwS.neg (h:IwS a n d):IwS (Xi a) n d:=⟨h.s2.neg,h.s1.neg,by show gv (XZ a.2)≤gv (XZ a.1);rw [Ts,Ts];have:=h.le;omega⟩
theorem IwS.add (h:IwS a n d) (k:IwS b n d) (hd:d≤65536):IwS (Ya a b) (n+d+1) d:=⟨Sm.sum h.s1 k.s1 hd,Sm.sum h.s2 k.s2 hd,by
 show gv (DD a.1 b.1)≤gv (DD a.2 b.2)
 rw [EF h.s1.le k.s1.le,EF h.s2.le k.s2.le]
 have:=h.le;have:=k.le;omega⟩
theorem IwS.sub (h:IwS a n d) (k:IwS b n d) (hd:d≤65536):IwS (Zt a b) (n+d+1) d:=h.add k.neg hd
theorem IwS.min (h:IwS a n d) (k:IwS b n d):IwS (Yc a b) n d:=⟨Sm.min h.s1 k.s1,Sm.min h.s2 k.s2,by
 show gv (Pn a.1 b.1)≤gv (Pn a.2 b.2)
 rw [IT h.s1.le k.s1.le,IT h.s2.le k.s2.le]
 have:=h.le;have:=k.le;omega⟩
theorem IwS.max (h:IwS a n d) (k:IwS b n d):IwS (Xj a b) n d:=⟨Sm.max h.s1 k.s1,Sm.max h.s2 k.s2,by
 show gv (FY a.1 b.1)≤gv (FY a.2 b.2)
 rw [Fa h.s1.le k.s1.le,Fa h.s2.le k.s2.le]
 have:=h.le;have:=k.le;omega⟩
theorem IwS.pt {p:Pq} (h:Sm p n d):IwS (p,p) n d:=⟨h,h,Int.le_refl _⟩
theorem IwS.mul (h:IwS a n d) (k:IwS b n d) (hd:d≤30000):IwS (Yb a b) (n+n) (d+d):=(IA (Sm.mul h.s1 k.s1 hd) (Sm.mul h.s1 k.s2 hd) (Sm.mul h.s2 k.s1 hd) (Sm.mul h.s2 k.s2 hd)).2.2
theorem IwS.hull (h:IwS a n d) (k:IwS b n d):IwS (Qt a b) n d:=(IA h.s1 h.s2 k.s1 k.s2).2.2
theorem IwS.clip {v u:Pq} (h:IwS a n d) (hv:Sm v n d) (hu:Sm u n d):IwS (OQ a v u) n d:=(h.max (.pt hv)).min (.pt hu)
theorem Aat {p:Pq}:p.1<0 ↔ gv p<0:=by
 unfold gv
 exact ⟨fun h=>Int.mul_neg_of_neg_of_pos h (BR _),fun h=>Int.not_le.1 fun hc=>by have:=Int.mul_nonneg hc (Int.le_of_lt (BR (GQ - p.2)));omega⟩
theorem Aau {p:Pq}:0<p.1 ↔ 0<gv p:=by
 unfold gv
 exact ⟨fun h=>Int.mul_pos h (BR _),fun h=>Int.not_le.1 fun hc=>by have:=Int.mul_nonpos_of_nonpos_of_nonneg hc (Int.le_of_lt (BR (GQ - p.2)));omega⟩
theorem IwS.abs (h:IwS a n d):IwS (Qu a) n d:=by
 obtain ⟨h1,h2,h3⟩:=Ga h.s1.abs h.s2.abs
 unfold Qu
 split
 ·refine ⟨Sm.zero n d,h3.s2,?_⟩
  show gv (0,0)≤gv (De [Gv a.1,Gv a.2]).2
  rw [Fp,h2,Qp,Qp]
  omega
 ·exact h3
theorem AcE (h:IwS a n d):gv (Qu a).1=(if gv a.1<0∧0<gv a.2 then 0 else min ((gv a.1).natAbs:Int) (gv a.2).natAbs)∧gv (Qu a).2=max ((gv a.1).natAbs:Int) (gv a.2).natAbs:=by
 obtain ⟨h1,h2,h3⟩:=Ga h.s1.abs h.s2.abs
 rw [Qp,Qp] at h1 h2
 unfold Qu
 by_cases hc:a.1.1<0∧0<a.2.1
 ·rw [if_pos hc,if_pos ⟨Aat.1 hc.1,Aau.1 hc.2⟩]
  exact ⟨Fp,h2⟩
 ·rw [if_neg hc,if_neg (fun h=>hc ⟨Aat.2 h.1,Aau.2 h.2⟩)]
  exact ⟨h1,h2⟩
end
theorem Xk (a:Iq):∀ u∈dIw false a,FB u:=fun u hu=>by
 rcases List.mem_append.1 hu with h|h <;> exact Mx _ _ u h
theorem rvJ {P:Program} {F:Frm} {H:List Ob} {t:Tmp} {ty ty' id k:Nat} {a:Iq} (hk:TyK P ty true k) (hi:6=k) (hF:F t=.one (.ref id 0 none):=by with_unfolding_all exact rfl) (hH:H[id]?=some (.box ty' ((dIw false a).map C.d)):=by with_unfolding_all exact rfl):RV P F H (.cell t ty) (aIw false a):=by
 obtain ⟨⟨dd,hu,hd⟩,hz⟩:=hk
 refine .cellA hF hH hu hd (by rw [hz,←hi];rfl) (Bv.map_l.2 ⟨rfl,fun j x y hx hy=>?_⟩)
 rw [hx] at hy
 cases hy
 exact .d fun _=>Xk a x (List.mem_of_getElem? hx)
def AcF (ps:List Prt) (bs:List Bk) (st:List (Int × Nat)) (ins:List Int):Int :=
 if ins.length≠ps.length then 11 else if inOk ps ins=false then 3 else if Xa ps bs st ins=true then 4 else 0
structure StOk (bs:List Bk) (st:List (Int × Nat)):Prop where
 len:st.length=(CA bs).length
 sm:∀ p∈st,Sm p LB LB
section
variable {ps:List Prt} {bs:List Bk} {os:List Int} {st:List (Int × Nat)} {ins:List Int}
def argsE (V:List (Int × Nat)) (y:Bk):List (Int × Nat):=if y.kind=0 then [] else y.args.map fun a=>V[a.toNat]?.getD (0,0)
end
def vnAt (bs:List Bk) (i:Nat):Int:=(bs[i]?.getD bk0).vn
def veAt (bs:List Bk) (i:Nat):Int:=(bs[i]?.getD bk0).ve
def NN (bs:List Bk):List (Int × Nat):=(CA bs).map fun i=>Ai (vnAt bs i) 0 (veAt bs i)
def outV (ps:List Prt) (bs:List Bk) (os:List Int) (st:List (Int × Nat)) (ins:List Int):List (Int × Nat):=os.map fun o=>((valE ps bs st ins)[o.toNat]?).getD (0,0)
def stN (ps:List Prt) (bs:List Bk) (st:List (Int × Nat)) (ls:List (List Int)):List (Int × Nat):=ls.foldl (fun s ins=>AcC ps bs s ins) st
def runE (ps:List Prt) (bs:List Bk) (st:List (Int × Nat)):List (List Int)→Int
 | []=>0
 | ins::l=>if AcF ps bs st ins=0 then runE ps bs (AcC ps bs st ins) l else AcF ps bs st ins
def runO (ps:List Prt) (bs:List Bk) (os:List Int) (st:List (Int × Nat)):List (List Int)→List (List (Int × Nat))
 | []=>[]
 | ins::l=>outV ps bs os st ins::runO ps bs os (AcC ps bs st ins) l
section
variable {ps:List Prt} {bs:List Bk} {os:List Int}
def AllT (ps:List Prt) (bs:List Bk) (st:List (Int × Nat)) (ls:List (List Int)):Prop:=∀ (k:Nat) (ins:List Int),ls[k]?=some ins→AcF ps bs (stN ps bs st (ls.take k)) ins=0
end
def Gb (p:Int × Nat):Rv:=⟨decide (p.1<0),Ad p.1.natAbs,p.2⟩
theorem AeK (p:Int × Nat):(Gb p).rw.x=p.1:=by
 show sg (decide (p.1<0)) (AO (Ad p.1.natAbs))=p.1
 rw [AE]
 unfold sg
 split <;> rename_i h
 ·have:=of_decide_eq_true h;omega
 ·have:¬ p.1<0:=by simpa using h
  omega
theorem MD (p:Int × Nat):rvP (Gb p)=p:=by
 unfold rvP
 rw [AeK]
 show (p.1,((p.2:Nat):Int).toNat)=p
 rw [Int.toNat_natCast]
theorem ME (t:Bool) (p:Int × Nat):dRv t (Gb p)=dDy t p.1 p.2:=by
 unfold dRv dDy wds
 rw [Un]
 rfl
theorem Xl {p:Int × Nat} (h:Nf p.1 p.2):vdB (Gb p).rw=true:=by
 refine decide_eq_true ?_
 by_cases h0:(Ad p.1.natAbs).length=0
 ·refine (Zd (r:=(Gb p).rw) h0).2 ?_
  have hz:p.1.natAbs=0:=by
   have:=AE p.1.natAbs
   rw [List.eq_nil_of_length_eq_zero h0] at this
   exact this.symm
  have hd:p.2=0:=Classical.byContradiction fun hne=>by have:=h.2 hne;omega
  exact ⟨decide_eq_false (by omega),by show ((p.2:Nat):Int)=0;omega⟩
 ·refine (WS (r:=(Gb p).rw) h0).2 ⟨?_,by show (0:Int)≤(p.2:Nat);omega,by have:=h.1;show ((p.2:Nat):Int)≤65536;omega,?_⟩
  ·have hne:p.1.natAbs≠0:=fun hz=>h0 (by rw [hz,AP];rfl)
   obtain ⟨q,L,hL,hq,q0,_,_⟩:=NK hne
   show _≠_
   simp only [Gb,Rv.rw]
   first|(rw [hL];simpa [hq] using q0)|simp_all
  ·by_cases hd:p.2=0
   ·left;show ((p.2:Nat):Int)=0;omega
   ·right
    have:=h.2 hd
    have hb:=Ge (AV p.1.natAbs) 0
    rw [AE] at hb
    simp only [Nat.pow_zero,Nat.div_one,Nat.zero_div,Nat.zero_mod] at hb
    show (Ad p.1.natAbs)[0]?.getD 0 % 2=1
    omega
theorem Zu (l:List (Int × Nat)):(l.map Gb).map rvP=l:=by
 rw [List.map_map]
 exact (List.map_congr_left fun p _=>MD p).trans (List.map_id l)
theorem AcG (l:List (Int × Nat)):Xb (l.map Gb)=.row false 3 l.length (AN dyP l):=by
 unfold Xb AN
 rw [List.length_map,List.map_map]
 congr 2
 exact List.map_congr_left fun p _=>ME false p
theorem AcH (bs:List Bk):(CA bs).length≤bs.length:=by unfold CA;exact Nat.le_trans (List.length_filter_le _ _) (Nat.le_of_eq List.length_range)
theorem Xm {l:List (Int × Nat)} {k:Nat} {p:Int × Nat} (h:l[k]?=some p):(AN dyP (l.take k)).map C.d++(dDy false p.1 p.2).map C.d=(AN dyP (l.take (k+1))).map C.d∧(l.take k).length+1=(l.take (k+1)).length∧(l.take k).length≤k:=by
 refine ⟨?_,?_,by rw [List.length_take];omega⟩
 ·rw [List.take_add_one,h,Option.toList_some,PO,List.map_append];rfl
 ·rw [List.take_add_one,h,List.length_append];rfl
def rowLI (u:Bool) (ls:List (List Int)):D:=.row u 1 ls.length (ls.map (BQ u))
def dRw (l:List (Int × Nat)):D:=.row false 3 l.length (AN dyP l)
def rowLJ (u v:Bool) (ls:List (List Int)):D:=.row u 1 ls.length (ls.map (BQ v))
def GU (rows:List (List (Int × Nat))):D:=.row false 1 rows.length (rows.map dRw)
def runQE (ps:List Prt) (bs:List Bk) (os:List Int) (ls:List (List Int)):Int:=if BN ps bs os≠0 then BN ps bs os else if 256<ls.length then 4 else runE ps bs (NN bs) ls
theorem Tu (l:List (Int × Nat)):FB (dRw l):=.row fun d hd=>Ip (f:=dyP) (fun p=>Mx _ _) l d hd
theorem Agq {P:Program} {F:Frm} {H:List Ob} {t id ty n:Nat} {rows:List (List (Int × Nat))} (hF:F t=.one (.own id n)) (hH:H[id]?=some (.row ty 1 n ((rows.map dRw).map C.d))) (hn:n=rows.length):RV P F H (.tmp t) (.one (GU rows)):=.tmp (by
 rw [hF]
 refine .one (IO rfl hH (by subst hn;rfl) (Bv.map_l.2 ⟨rfl,fun j a b ha hb=>?_⟩))
 rw [ha] at hb
 cases hb
 obtain ⟨l,_,rfl⟩:=List.mem_map.1 (List.mem_of_getElem? ha)
 exact .d fun _=>Tu l)
theorem Xn (d:Dg) (b:Bk) (w:World) (h:¬ (0≤AU b.kind∧((b.args.length:Nat):Int)=AU b.kind)) (hl:b.args.length≤1000000) :
  Calls Tryz.prog 77 #[d.val,b.val] w fun e w'=>e=.returned (.int .i64 (BC d.ps.length d.bs.length b))∧Below w.heap.size w w':=by
 obtain ⟨A1,ps,c1,A2,bs,c2,A3,os,c3⟩:=d
 obtain ⟨kind,A,args,cap,vn,ve,un,ue⟩:=b
 dsimp only at h hl
 simp only [Dg.val,Bk.val]
 have b0:Below w.heap.size w ((w.alloc (.cells #[.slice A1 ps.length c1,.slice A2 bs.length c2,.slice A3 os.length c3] 26)).alloc (.cells #[.int .i64 kind,.slice A args.length cap,.int .i64 vn,.int .i64 ve,.int .i64 un,.int .i64 ue] 63)):=Aq (al_ _ _) _
 obtain ⟨K,hK⟩:∃ K,AU kind=K:=⟨_,rfl⟩
 have HKK:=Lib.hid hK
 by_cases hk0:K<0
 ·have HE:=Lib.hid (be1 (np:=ps.length) (nb:=bs.length) (b:=⟨kind,A,args,cap,vn,ve,un,ue⟩) (by show AU kind<0;omega))
  clear h hK
  go_enter Tryz.func77,Tryz.ntmps77
  go_wp2_with (go_at_call 167;refine (Dm _ _).mono ?_;rintro e w1 ⟨rfl,rfl⟩;rw [HKK.out])
  go_ret
  exact ⟨CL HE.out.symm,b0⟩
 ·have HE:=Lib.hid (be2 (np:=ps.length) (nb:=bs.length) (b:=⟨kind,A,args,cap,vn,ve,un,ue⟩) (by show ¬ AU kind<0;omega) (fun h2=>h ⟨by omega,h2⟩))
  have hne:(((args.length:Nat):Int) != K)=true:=by
   rw [bne_iff_ne]
   intro h2
   exact h ⟨by omega,by omega⟩
  have hk1:0≤K:=by omega
  clear h hK hk0
  go_enter Tryz.func77,Tryz.ntmps77
  go_wp2_with (go_at_call 167;refine (Dm _ _).mono ?_;rintro e w1 ⟨rfl,rfl⟩;rw [HKK.out])
  go_ret
  exact ⟨CL HE.out.symm,b0⟩
theorem AcI (A1:Option Addr) (ps:List Prt) (c1:Nat) (A2:Option Addr) (bs:List Bk) (c2:Nat) (A3:Option Addr) (os:List Int) (c3:Nat) (A:Option Addr) (args:List Int) (cap:Nat) (vn ve un ue:Int) (m:Nat) (w:World)
  (hk0:¬ AU 0<0) (hk1:((args.length:Nat):Int)=AU 0) (hl:args.length≤1000000) (hl1:ps.length≤1000000) (hl2:bs.length≤1000000) (hm:m≤w.heap.size) (ha:Am w m A (CO args)) :
  Calls Tryz.prog 77 #[.agg #[.slice A1 ps.length c1,.slice A2 bs.length c2,.slice A3 os.length c3],.agg #[.int .i64 0,.slice A args.length cap,.int .i64 vn,.int .i64 ve,.int .i64 un,.int .i64 ue]] w fun e w'=>e=.returned (.int .i64 (BC ps.length bs.length ⟨0,A,args,cap,vn,ve,un,ue⟩))∧Below w.heap.size w w':=by
 have b0:Below w.heap.size w ((w.alloc (.cells #[.slice A1 ps.length c1,.slice A2 bs.length c2,.slice A3 os.length c3] 26)).alloc (.cells #[.int .i64 0,.slice A args.length cap,.int .i64 vn,.int .i64 ve,.int .i64 un,.int .i64 ue] 63)):=Aq (al_ _ _) _
 have r0:=(Bh.new_ w [.slice A1 ps.length c1,.slice A2 bs.length c2,.slice A3 os.length c3] 26).call (al_ _ (.cells #[.int .i64 0,.slice A args.length cap,.int .i64 vn,.int .i64 ve,.int .i64 un,.int .i64 ue] 63))
 have r1:=Bh.new_ (w.alloc (.cells #[.slice A1 ps.length c1,.slice A2 bs.length c2,.slice A3 os.length c3] 26)) [.int .i64 0,.slice A args.length cap,.int .i64 vn,.int .i64 ve,.int .i64 un,.int .i64 ue] 63
 rw [show (w.alloc (.cells #[.slice A1 ps.length c1,.slice A2 bs.length c2,.slice A3 os.length c3] 26)).heap.size=w.heap.size+1 by simp] at r1
 have HA:=Lib.hid ha
 have HK0:=Lib.hid hk0
 have HK1:=Lib.hid hk1
 obtain ⟨K,hK⟩:∃ K,AU 0=K:=⟨_,rfl⟩
 have HKK:=Lib.hid hK
 have hne:(((args.length:Nat):Int) != K)=false:=by rw [hk1,hK];simp
 have hkk:0≤K:=by omega
 clear ha hk0 hk1 hK
 go_enter Tryz.func77,Tryz.ntmps77
 have HM:Hid (Dv ps.length bs.length 0=ps.length):=Lib.hid (rfl)
 have HV:Hid (La 0=false):=Lib.hid (by decide)
 have HU:Hid (EJ 0=false):=Lib.hid (by decide)
 go_wp2_with (go_at_call 167;refine (Dm _ _).mono ?_;rintro e w1 ⟨rfl,rfl⟩;rw [HKK.out])
 obtain ⟨W,hW⟩:∃ W,W=((w.alloc (.cells #[.slice A1 ps.length c1,.slice A2 bs.length c2,.slice A3 os.length c3] 26)).alloc (.cells #[.int .i64 0,.slice A args.length cap,.int .i64 vn,.int .i64 ve,.int .i64 un,.int .i64 ue] 63)):=⟨_,rfl⟩
 rw [←hW]
 rw [←hW] at r0 r1 b0
 have hWs:W.heap.size=w.heap.size+2:=by rw [hW];simp
 clear hW
 have q0:W.cell? ⟨w.heap.size+1,0,none⟩=some (.int .i64 0):=r1.cell 0
 have q2:W.cell? ⟨w.heap.size+1,2,none⟩=some (.int .i64 vn):=r1.cell 2
 have q3:W.cell? ⟨w.heap.size+1,3,none⟩=some (.int .i64 ve):=r1.cell 3
 have HB0:=Lib.hid b0
 have R1:=Lib.hid r1
 have HA2:=Lib.hid (HA.out.below b0 hm)
 have hbs1:(W.heap.size:Int)=w.heap.size+2:=by omega
 clear r0 r1 b0
 go_loopw [34] (fun i wr=>Fz args ps.length W i wr) (fun i _=>args.length - (intOf i).toNat)
 case atStart=>exact ⟨0,Nat.zero_le _,rfl,rfl,rfl⟩
 case round =>
  as_aux_lemma =>
   obtain ⟨t,ht,rfl,hf,rfl⟩:=hrel
   have HF:=Lib.hid hf
   clear hf
   by_cases hlt:t<args.length
   ·obtain ⟨ab,ao,z,rfl,hab,hab2,hz,hzc⟩:=HA2.out.int_ hlt
    have HZ:=Lib.hid hz
    clear hz
    by_cases h0:0≤z∧z<(ps.length:Int)
    ·have HZ2:=Lib.hid (Dh HZ.out h0 HF.out)
     have HWB:=Lib.hid (show Cd z 0 ((ps.length:Int) - 1)=true from decide_eq_true ⟨h0.1,by have:=h0.2;omega⟩)
     clear h0
     go_wp2_with (go_at_call 76;refine (Bu _ _ _ _).mono ?_;rintro e w1 ⟨rfl,rfl⟩;rw [HWB.out])
     exact ⟨⟨t+1,by omega,by go_num,HZ2.out,rfl⟩,by simp [intOf];omega⟩
    ·have hE:=Lib.hid (be3 (np:=ps.length) (nb:=bs.length) (b:=⟨0,some ⟨ab,ao,none⟩,args,cap,vn,ve,un,ue⟩) (Int.not_lt.2 HK0.out) HK1.out HM.out (CN HZ.out h0 HF.out))
     have HWB:=Lib.hid (show Cd z 0 ((ps.length:Int) - 1)=false from decide_eq_false (fun h=>h0 ⟨h.1,by have:=h.2;omega⟩))
     clear h0
     go_wp2_with (go_at_call 76;refine (Bu _ _ _ _).mono ?_;rintro e w1 ⟨rfl,rfl⟩;rw [HWB.out])
     go_ret
     exact ⟨CL hE.out.symm,HB0.out⟩
   ·have P1:=Lib.hid (DH (k:=t) (by rw [List.length_map];omega) HF.out)
    clear HF
    have hE4:=fun h=>be4 (np:=ps.length) (nb:=bs.length) (b:=⟨0,A,args,cap,vn,ve,un,ue⟩) (Int.not_lt.2 HK0.out) HK1.out HM.out P1.out HV.out h
    have hE5:=fun h4 h=>be5 (np:=ps.length) (nb:=bs.length) (b:=⟨0,A,args,cap,vn,ve,un,ue⟩) (Int.not_lt.2 HK0.out) HK1.out HM.out P1.out HV.out h4 HU.out h
    have hE6:=fun h4 h5 h=>be6 (np:=ps.length) (nb:=bs.length) (b:=⟨0,A,args,cap,vn,ve,un,ue⟩) (Int.not_lt.2 HK0.out) HK1.out HM.out P1.out HV.out h4 HU.out h5 h
    have hE7:=fun h4 h5 h=>be7 (np:=ps.length) (nb:=bs.length) (b:=⟨0,A,args,cap,vn,ve,un,ue⟩) (Int.not_lt.2 HK0.out) HK1.out HM.out P1.out HV.out h4 HU.out h5 h
    dsimp only at hE4 hE5 hE6 hE7
    have HE4:=Lib.hid hE4
    have HE5:=Lib.hid hE5
    have HE6:=Lib.hid hE6
    have HE7:=Lib.hid hE7
    clear hE4 hE5 hE6 hE7
    go_wp2_with fail
    go_at_call 168
    refine (Ce vn ve false wr).mono ?_
    rintro e w5 ⟨rfl,hb5⟩
    have N5:=Lib.hid (HB0.out.trans (hb5.mono (by omega)))
    have r5:=R1.out.call hb5
    have hz5:=hb5.size
    have z5:w.heap.size+1<w5.heap.size:=by omega
    have q4:w5.cell? ⟨w.heap.size+1,4,none⟩=some (.int .i64 un):=r5.cell 4
    have q5:w5.cell? ⟨w.heap.size+1,5,none⟩=some (.int .i64 ue):=r5.cell 5
    have R5:=Lib.hid r5
    clear r5 hb5 q0 q2 q3 hlt hbs1
    by_cases h4:BF vn ve false=0
    ·rw [h4]
     have H4:=Lib.hid h4
     clear h4
     go_wp2_with fail
     go_at_call 168
     refine (Ce un ue false w5).mono ?_
     rintro e w6 ⟨rfl,hb6⟩
     have N6:=Lib.hid (N5.out.trans (hb6.mono (by omega)))
     have r6:=R5.out.call hb6
     have hz6:=hb6.size
     have z6:w.heap.size+1<w6.heap.size:=by omega
     have q2:w6.cell? ⟨w.heap.size+1,2,none⟩=some (.int .i64 vn):=r6.cell 2
     have q3:w6.cell? ⟨w.heap.size+1,3,none⟩=some (.int .i64 ve):=r6.cell 3
     have q6:w6.cell? ⟨w.heap.size+1,4,none⟩=some (.int .i64 un):=r6.cell 4
     have q7:w6.cell? ⟨w.heap.size+1,5,none⟩=some (.int .i64 ue):=r6.cell 5
     clear r6 hb6 q4 q5 z5
     by_cases h5:BF un ue false=0
     ·rw [h5]
      have H5:=Lib.hid h5
      clear h5
      go_wp2_with fail
      go_ret
      exact ⟨CL (HE7.out H4.out H5.out (fun h=>by cases h.1)).symm,N6.out⟩
     ·have HE:=Lib.hid (HE5.out H4.out h5)
      obtain ⟨q,hq⟩:∃ q,BF un ue false=q:=⟨_,rfl⟩
      rw [hq] at h5 HE
      rw [hq]
      have hqb:(q != 0)=true:=by simpa using h5
      clear hq h5
      go_wp2_with fail
      go_ret
      exact ⟨CL HE.out.symm,N6.out⟩
    ·have HE:=Lib.hid (HE4.out h4)
     obtain ⟨q,hq⟩:∃ q,BF vn ve false=q:=⟨_,rfl⟩
     rw [hq] at h4 HE
     rw [hq]
     have hqb:(q != 0)=true:=by simpa using h4
     clear hq h4
     go_wp2_with fail
     go_ret
     exact ⟨CL HE.out.symm,N5.out⟩
theorem Zv (A1:Option Addr) (ps:List Prt) (c1:Nat) (A2:Option Addr) (bs:List Bk) (c2:Nat) (A3:Option Addr) (os:List Int) (c3:Nat) (A:Option Addr) (args:List Int) (cap:Nat) (vn ve un ue:Int) (m:Nat) (w:World)
  (hk0:¬ AU 11<0) (hk1:((args.length:Nat):Int)=AU 11) (hl:args.length≤1000000) (hl1:ps.length≤1000000) (hl2:bs.length≤1000000) (hm:m≤w.heap.size) (ha:Am w m A (CO args)) :
  Calls Tryz.prog 77 #[.agg #[.slice A1 ps.length c1,.slice A2 bs.length c2,.slice A3 os.length c3],.agg #[.int .i64 11,.slice A args.length cap,.int .i64 vn,.int .i64 ve,.int .i64 un,.int .i64 ue]] w fun e w'=>e=.returned (.int .i64 (BC ps.length bs.length ⟨11,A,args,cap,vn,ve,un,ue⟩))∧Below w.heap.size w w':=by
 have b0:Below w.heap.size w ((w.alloc (.cells #[.slice A1 ps.length c1,.slice A2 bs.length c2,.slice A3 os.length c3] 26)).alloc (.cells #[.int .i64 11,.slice A args.length cap,.int .i64 vn,.int .i64 ve,.int .i64 un,.int .i64 ue] 63)):=Aq (al_ _ _) _
 have r0:=(Bh.new_ w [.slice A1 ps.length c1,.slice A2 bs.length c2,.slice A3 os.length c3] 26).call (al_ _ (.cells #[.int .i64 11,.slice A args.length cap,.int .i64 vn,.int .i64 ve,.int .i64 un,.int .i64 ue] 63))
 have r1:=Bh.new_ (w.alloc (.cells #[.slice A1 ps.length c1,.slice A2 bs.length c2,.slice A3 os.length c3] 26)) [.int .i64 11,.slice A args.length cap,.int .i64 vn,.int .i64 ve,.int .i64 un,.int .i64 ue] 63
 rw [show (w.alloc (.cells #[.slice A1 ps.length c1,.slice A2 bs.length c2,.slice A3 os.length c3] 26)).heap.size=w.heap.size+1 by simp] at r1
 have HA:=Lib.hid ha
 have HK0:=Lib.hid hk0
 have HK1:=Lib.hid hk1
 obtain ⟨K,hK⟩:∃ K,AU 11=K:=⟨_,rfl⟩
 have HKK:=Lib.hid hK
 have hne:(((args.length:Nat):Int) != K)=false:=by rw [hk1,hK];simp
 have hkk:0≤K:=by omega
 clear ha hk0 hk1 hK
 go_enter Tryz.func77,Tryz.ntmps77
 have HM:Hid (Dv ps.length bs.length 11=bs.length):=Lib.hid (rfl)
 have HV:Hid (La 11=true):=Lib.hid (by decide)
 have HU:Hid (EJ 11=true):=Lib.hid (by decide)
 go_wp2_with (go_at_call 167;refine (Dm _ _).mono ?_;rintro e w1 ⟨rfl,rfl⟩;rw [HKK.out])
 obtain ⟨W,hW⟩:∃ W,W=((w.alloc (.cells #[.slice A1 ps.length c1,.slice A2 bs.length c2,.slice A3 os.length c3] 26)).alloc (.cells #[.int .i64 11,.slice A args.length cap,.int .i64 vn,.int .i64 ve,.int .i64 un,.int .i64 ue] 63)):=⟨_,rfl⟩
 rw [←hW]
 rw [←hW] at r0 r1 b0
 have hWs:W.heap.size=w.heap.size+2:=by rw [hW];simp
 clear hW
 have q0:W.cell? ⟨w.heap.size+1,0,none⟩=some (.int .i64 11):=r1.cell 0
 have q2:W.cell? ⟨w.heap.size+1,2,none⟩=some (.int .i64 vn):=r1.cell 2
 have q3:W.cell? ⟨w.heap.size+1,3,none⟩=some (.int .i64 ve):=r1.cell 3
 have HB0:=Lib.hid b0
 have R1:=Lib.hid r1
 have HA2:=Lib.hid (HA.out.below b0 hm)
 have hbs1:(W.heap.size:Int)=w.heap.size+2:=by omega
 clear r0 r1 b0
 go_loopw [34] (fun i wr=>Fz args bs.length W i wr) (fun i _=>args.length - (intOf i).toNat)
 case atStart=>exact ⟨0,Nat.zero_le _,rfl,rfl,rfl⟩
 case round =>
  as_aux_lemma =>
   obtain ⟨t,ht,rfl,hf,rfl⟩:=hrel
   have HF:=Lib.hid hf
   clear hf
   by_cases hlt:t<args.length
   ·obtain ⟨ab,ao,z,rfl,hab,hab2,hz,hzc⟩:=HA2.out.int_ hlt
    have HZ:=Lib.hid hz
    clear hz
    by_cases h0:0≤z∧z<(bs.length:Int)
    ·have HZ2:=Lib.hid (Dh HZ.out h0 HF.out)
     have HWB:=Lib.hid (show Cd z 0 ((bs.length:Int) - 1)=true from decide_eq_true ⟨h0.1,by have:=h0.2;omega⟩)
     clear h0
     go_wp2_with (go_at_call 76;refine (Bu _ _ _ _).mono ?_;rintro e w1 ⟨rfl,rfl⟩;rw [HWB.out])
     exact ⟨⟨t+1,by omega,by go_num,HZ2.out,rfl⟩,by simp [intOf];omega⟩
    ·have hE:=Lib.hid (be3 (np:=ps.length) (nb:=bs.length) (b:=⟨11,some ⟨ab,ao,none⟩,args,cap,vn,ve,un,ue⟩) (Int.not_lt.2 HK0.out) HK1.out HM.out (CN HZ.out h0 HF.out))
     have HWB:=Lib.hid (show Cd z 0 ((bs.length:Int) - 1)=false from decide_eq_false (fun h=>h0 ⟨h.1,by have:=h.2;omega⟩))
     clear h0
     go_wp2_with (go_at_call 76;refine (Bu _ _ _ _).mono ?_;rintro e w1 ⟨rfl,rfl⟩;rw [HWB.out])
     go_ret
     exact ⟨CL hE.out.symm,HB0.out⟩
   ·have P1:=Lib.hid (DH (k:=t) (by rw [List.length_map];omega) HF.out)
    clear HF
    have hE4:=fun h=>be4 (np:=ps.length) (nb:=bs.length) (b:=⟨11,A,args,cap,vn,ve,un,ue⟩) (Int.not_lt.2 HK0.out) HK1.out HM.out P1.out HV.out h
    have hE5:=fun h4 h=>be5 (np:=ps.length) (nb:=bs.length) (b:=⟨11,A,args,cap,vn,ve,un,ue⟩) (Int.not_lt.2 HK0.out) HK1.out HM.out P1.out HV.out h4 HU.out h
    have hE6:=fun h4 h5 h=>be6 (np:=ps.length) (nb:=bs.length) (b:=⟨11,A,args,cap,vn,ve,un,ue⟩) (Int.not_lt.2 HK0.out) HK1.out HM.out P1.out HV.out h4 HU.out h5 h
    have hE7:=fun h4 h5 h=>be7 (np:=ps.length) (nb:=bs.length) (b:=⟨11,A,args,cap,vn,ve,un,ue⟩) (Int.not_lt.2 HK0.out) HK1.out HM.out P1.out HV.out h4 HU.out h5 h
    dsimp only at hE4 hE5 hE6 hE7
    have HE4:=Lib.hid hE4
    have HE5:=Lib.hid hE5
    have HE6:=Lib.hid hE6
    have HE7:=Lib.hid hE7
    clear hE4 hE5 hE6 hE7
    go_wp2_with fail
    go_at_call 168
    refine (Ce vn ve true wr).mono ?_
    rintro e w5 ⟨rfl,hb5⟩
    have N5:=Lib.hid (HB0.out.trans (hb5.mono (by omega)))
    have r5:=R1.out.call hb5
    have hz5:=hb5.size
    have z5:w.heap.size+1<w5.heap.size:=by omega
    have q4:w5.cell? ⟨w.heap.size+1,4,none⟩=some (.int .i64 un):=r5.cell 4
    have q5:w5.cell? ⟨w.heap.size+1,5,none⟩=some (.int .i64 ue):=r5.cell 5
    have R5:=Lib.hid r5
    clear r5 hb5 q0 q2 q3 hlt hbs1
    by_cases h4:BF vn ve true=0
    ·rw [h4]
     have H4:=Lib.hid h4
     clear h4
     go_wp2_with fail
     go_at_call 168
     refine (Ce un ue true w5).mono ?_
     rintro e w6 ⟨rfl,hb6⟩
     have N6:=Lib.hid (N5.out.trans (hb6.mono (by omega)))
     have r6:=R5.out.call hb6
     have hz6:=hb6.size
     have z6:w.heap.size+1<w6.heap.size:=by omega
     have q2:w6.cell? ⟨w.heap.size+1,2,none⟩=some (.int .i64 vn):=r6.cell 2
     have q3:w6.cell? ⟨w.heap.size+1,3,none⟩=some (.int .i64 ve):=r6.cell 3
     have q6:w6.cell? ⟨w.heap.size+1,4,none⟩=some (.int .i64 un):=r6.cell 4
     have q7:w6.cell? ⟨w.heap.size+1,5,none⟩=some (.int .i64 ue):=r6.cell 5
     clear r6 hb6 q4 q5 z5
     by_cases h5:BF un ue true=0
     ·rw [h5]
      have H5:=Lib.hid h5
      clear h5
      go_wp2_with fail
      go_at_call 169
      refine (YG vn ve un ue w6 (Mr H4.out) (Mr H5.out)).mono ?_
      rintro e w9 ⟨rfl,hb9⟩
      have N9:=Lib.hid (N6.out.trans (hb9.mono (by omega)))
      clear hb9
      obtain ⟨C,hC⟩:∃ C,Ml vn ve un ue=C:=⟨_,rfl⟩
      have HC:=Lib.hid hC
      rw [hC]
      clear hC
      by_cases hc:0<C
      ·have HE:=Lib.hid (HE6.out H4.out H5.out ⟨by trivial,by rw [HC.out];exact hc⟩)
       go_wp2_with fail
       go_ret
       exact ⟨CL HE.out.symm,N9.out⟩
      ·have HE:=Lib.hid (HE7.out H4.out H5.out (fun h=>hc (by rw [←HC.out];exact h.2)))
       go_wp2_with fail
       go_ret
       exact ⟨CL HE.out.symm,N9.out⟩
     ·have HE:=Lib.hid (HE5.out H4.out h5)
      obtain ⟨q,hq⟩:∃ q,BF un ue true=q:=⟨_,rfl⟩
      rw [hq] at h5 HE
      rw [hq]
      have hqb:(q != 0)=true:=by simpa using h5
      clear hq h5
      go_wp2_with fail
      go_ret
      exact ⟨CL HE.out.symm,N6.out⟩
    ·have HE:=Lib.hid (HE4.out h4)
     obtain ⟨q,hq⟩:∃ q,BF vn ve true=q:=⟨_,rfl⟩
     rw [hq] at h4 HE
     rw [hq]
     have hqb:(q != 0)=true:=by simpa using h4
     clear hq h4
     go_wp2_with fail
     go_ret
     exact ⟨CL HE.out.symm,N5.out⟩
theorem AcJ (A1:Option Addr) (ps:List Prt) (c1:Nat) (A2:Option Addr) (bs:List Bk) (c2:Nat) (A3:Option Addr) (os:List Int) (c3:Nat) (A:Option Addr) (args:List Int) (cap:Nat) (vn ve un ue:Int) (m:Nat) (w:World)
  (hk0:¬ AU 1<0) (hk1:((args.length:Nat):Int)=AU 1) (hl:args.length≤1000000) (hl1:ps.length≤1000000) (hl2:bs.length≤1000000) (hm:m≤w.heap.size) (ha:Am w m A (CO args)) :
  Calls Tryz.prog 77 #[.agg #[.slice A1 ps.length c1,.slice A2 bs.length c2,.slice A3 os.length c3],.agg #[.int .i64 1,.slice A args.length cap,.int .i64 vn,.int .i64 ve,.int .i64 un,.int .i64 ue]] w fun e w'=>e=.returned (.int .i64 (BC ps.length bs.length ⟨1,A,args,cap,vn,ve,un,ue⟩))∧Below w.heap.size w w':=by
 have b0:Below w.heap.size w ((w.alloc (.cells #[.slice A1 ps.length c1,.slice A2 bs.length c2,.slice A3 os.length c3] 26)).alloc (.cells #[.int .i64 1,.slice A args.length cap,.int .i64 vn,.int .i64 ve,.int .i64 un,.int .i64 ue] 63)):=Aq (al_ _ _) _
 have r0:=(Bh.new_ w [.slice A1 ps.length c1,.slice A2 bs.length c2,.slice A3 os.length c3] 26).call (al_ _ (.cells #[.int .i64 1,.slice A args.length cap,.int .i64 vn,.int .i64 ve,.int .i64 un,.int .i64 ue] 63))
 have r1:=Bh.new_ (w.alloc (.cells #[.slice A1 ps.length c1,.slice A2 bs.length c2,.slice A3 os.length c3] 26)) [.int .i64 1,.slice A args.length cap,.int .i64 vn,.int .i64 ve,.int .i64 un,.int .i64 ue] 63
 rw [show (w.alloc (.cells #[.slice A1 ps.length c1,.slice A2 bs.length c2,.slice A3 os.length c3] 26)).heap.size=w.heap.size+1 by simp] at r1
 have HA:=Lib.hid ha
 have HK0:=Lib.hid hk0
 have HK1:=Lib.hid hk1
 obtain ⟨K,hK⟩:∃ K,AU 1=K:=⟨_,rfl⟩
 have HKK:=Lib.hid hK
 have hne:(((args.length:Nat):Int) != K)=false:=by rw [hk1,hK];simp
 have hkk:0≤K:=by omega
 clear ha hk0 hk1 hK
 go_enter Tryz.func77,Tryz.ntmps77
 have HM:Hid (Dv ps.length bs.length 1=bs.length):=Lib.hid (rfl)
 have HV:Hid (La 1=true):=Lib.hid (by decide)
 have HU:Hid (EJ 1=false):=Lib.hid (by decide)
 go_wp2_with (go_at_call 167;refine (Dm _ _).mono ?_;rintro e w1 ⟨rfl,rfl⟩;rw [HKK.out])
 obtain ⟨W,hW⟩:∃ W,W=((w.alloc (.cells #[.slice A1 ps.length c1,.slice A2 bs.length c2,.slice A3 os.length c3] 26)).alloc (.cells #[.int .i64 1,.slice A args.length cap,.int .i64 vn,.int .i64 ve,.int .i64 un,.int .i64 ue] 63)):=⟨_,rfl⟩
 rw [←hW]
 rw [←hW] at r0 r1 b0
 have hWs:W.heap.size=w.heap.size+2:=by rw [hW];simp
 clear hW
 have q0:W.cell? ⟨w.heap.size+1,0,none⟩=some (.int .i64 1):=r1.cell 0
 have q2:W.cell? ⟨w.heap.size+1,2,none⟩=some (.int .i64 vn):=r1.cell 2
 have q3:W.cell? ⟨w.heap.size+1,3,none⟩=some (.int .i64 ve):=r1.cell 3
 have HB0:=Lib.hid b0
 have R1:=Lib.hid r1
 have HA2:=Lib.hid (HA.out.below b0 hm)
 have hbs1:(W.heap.size:Int)=w.heap.size+2:=by omega
 clear r0 r1 b0
 go_loopw [34] (fun i wr=>Fz args bs.length W i wr) (fun i _=>args.length - (intOf i).toNat)
 case atStart=>exact ⟨0,Nat.zero_le _,rfl,rfl,rfl⟩
 case round =>
  as_aux_lemma =>
   obtain ⟨t,ht,rfl,hf,rfl⟩:=hrel
   have HF:=Lib.hid hf
   clear hf
   by_cases hlt:t<args.length
   ·obtain ⟨ab,ao,z,rfl,hab,hab2,hz,hzc⟩:=HA2.out.int_ hlt
    have HZ:=Lib.hid hz
    clear hz
    by_cases h0:0≤z∧z<(bs.length:Int)
    ·have HZ2:=Lib.hid (Dh HZ.out h0 HF.out)
     have HWB:=Lib.hid (show Cd z 0 ((bs.length:Int) - 1)=true from decide_eq_true ⟨h0.1,by have:=h0.2;omega⟩)
     clear h0
     go_wp2_with (go_at_call 76;refine (Bu _ _ _ _).mono ?_;rintro e w1 ⟨rfl,rfl⟩;rw [HWB.out])
     exact ⟨⟨t+1,by omega,by go_num,HZ2.out,rfl⟩,by simp [intOf];omega⟩
    ·have hE:=Lib.hid (be3 (np:=ps.length) (nb:=bs.length) (b:=⟨1,some ⟨ab,ao,none⟩,args,cap,vn,ve,un,ue⟩) (Int.not_lt.2 HK0.out) HK1.out HM.out (CN HZ.out h0 HF.out))
     have HWB:=Lib.hid (show Cd z 0 ((bs.length:Int) - 1)=false from decide_eq_false (fun h=>h0 ⟨h.1,by have:=h.2;omega⟩))
     clear h0
     go_wp2_with (go_at_call 76;refine (Bu _ _ _ _).mono ?_;rintro e w1 ⟨rfl,rfl⟩;rw [HWB.out])
     go_ret
     exact ⟨CL hE.out.symm,HB0.out⟩
   ·have P1:=Lib.hid (DH (k:=t) (by rw [List.length_map];omega) HF.out)
    clear HF
    have hE4:=fun h=>be4 (np:=ps.length) (nb:=bs.length) (b:=⟨1,A,args,cap,vn,ve,un,ue⟩) (Int.not_lt.2 HK0.out) HK1.out HM.out P1.out HV.out h
    have hE5:=fun h4 h=>be5 (np:=ps.length) (nb:=bs.length) (b:=⟨1,A,args,cap,vn,ve,un,ue⟩) (Int.not_lt.2 HK0.out) HK1.out HM.out P1.out HV.out h4 HU.out h
    have hE6:=fun h4 h5 h=>be6 (np:=ps.length) (nb:=bs.length) (b:=⟨1,A,args,cap,vn,ve,un,ue⟩) (Int.not_lt.2 HK0.out) HK1.out HM.out P1.out HV.out h4 HU.out h5 h
    have hE7:=fun h4 h5 h=>be7 (np:=ps.length) (nb:=bs.length) (b:=⟨1,A,args,cap,vn,ve,un,ue⟩) (Int.not_lt.2 HK0.out) HK1.out HM.out P1.out HV.out h4 HU.out h5 h
    dsimp only at hE4 hE5 hE6 hE7
    have HE4:=Lib.hid hE4
    have HE5:=Lib.hid hE5
    have HE6:=Lib.hid hE6
    have HE7:=Lib.hid hE7
    clear hE4 hE5 hE6 hE7
    go_wp2_with fail
    go_at_call 168
    refine (Ce vn ve true wr).mono ?_
    rintro e w5 ⟨rfl,hb5⟩
    have N5:=Lib.hid (HB0.out.trans (hb5.mono (by omega)))
    have r5:=R1.out.call hb5
    have hz5:=hb5.size
    have z5:w.heap.size+1<w5.heap.size:=by omega
    have q4:w5.cell? ⟨w.heap.size+1,4,none⟩=some (.int .i64 un):=r5.cell 4
    have q5:w5.cell? ⟨w.heap.size+1,5,none⟩=some (.int .i64 ue):=r5.cell 5
    have R5:=Lib.hid r5
    clear r5 hb5 q0 q2 q3 hlt hbs1
    by_cases h4:BF vn ve true=0
    ·rw [h4]
     have H4:=Lib.hid h4
     clear h4
     go_wp2_with fail
     go_at_call 168
     refine (Ce un ue false w5).mono ?_
     rintro e w6 ⟨rfl,hb6⟩
     have N6:=Lib.hid (N5.out.trans (hb6.mono (by omega)))
     have r6:=R5.out.call hb6
     have hz6:=hb6.size
     have z6:w.heap.size+1<w6.heap.size:=by omega
     have q2:w6.cell? ⟨w.heap.size+1,2,none⟩=some (.int .i64 vn):=r6.cell 2
     have q3:w6.cell? ⟨w.heap.size+1,3,none⟩=some (.int .i64 ve):=r6.cell 3
     have q6:w6.cell? ⟨w.heap.size+1,4,none⟩=some (.int .i64 un):=r6.cell 4
     have q7:w6.cell? ⟨w.heap.size+1,5,none⟩=some (.int .i64 ue):=r6.cell 5
     clear r6 hb6 q4 q5 z5
     by_cases h5:BF un ue false=0
     ·rw [h5]
      have H5:=Lib.hid h5
      clear h5
      go_wp2_with fail
      go_ret
      exact ⟨CL (HE7.out H4.out H5.out (fun h=>by cases h.1)).symm,N6.out⟩
     ·have HE:=Lib.hid (HE5.out H4.out h5)
      obtain ⟨q,hq⟩:∃ q,BF un ue false=q:=⟨_,rfl⟩
      rw [hq] at h5 HE
      rw [hq]
      have hqb:(q != 0)=true:=by simpa using h5
      clear hq h5
      go_wp2_with fail
      go_ret
      exact ⟨CL HE.out.symm,N6.out⟩
    ·have HE:=Lib.hid (HE4.out h4)
     obtain ⟨q,hq⟩:∃ q,BF vn ve true=q:=⟨_,rfl⟩
     rw [hq] at h4 HE
     rw [hq]
     have hqb:(q != 0)=true:=by simpa using h4
     clear hq h4
     go_wp2_with fail
     go_ret
     exact ⟨CL HE.out.symm,N5.out⟩
theorem AcK (A1:Option Addr) (ps:List Prt) (c1:Nat) (A2:Option Addr) (bs:List Bk) (c2:Nat) (A3:Option Addr) (os:List Int) (c3:Nat) (A:Option Addr) (args:List Int) (cap:Nat) (vn ve un ue:Int) (m:Nat) (w:World)
  (hk0:¬ AU 2<0) (hk1:((args.length:Nat):Int)=AU 2) (hl:args.length≤1000000) (hl1:ps.length≤1000000) (hl2:bs.length≤1000000) (hm:m≤w.heap.size) (ha:Am w m A (CO args)) :
  Calls Tryz.prog 77 #[.agg #[.slice A1 ps.length c1,.slice A2 bs.length c2,.slice A3 os.length c3],.agg #[.int .i64 2,.slice A args.length cap,.int .i64 vn,.int .i64 ve,.int .i64 un,.int .i64 ue]] w fun e w'=>e=.returned (.int .i64 (BC ps.length bs.length ⟨2,A,args,cap,vn,ve,un,ue⟩))∧Below w.heap.size w w':=by
 have b0:Below w.heap.size w ((w.alloc (.cells #[.slice A1 ps.length c1,.slice A2 bs.length c2,.slice A3 os.length c3] 26)).alloc (.cells #[.int .i64 2,.slice A args.length cap,.int .i64 vn,.int .i64 ve,.int .i64 un,.int .i64 ue] 63)):=Aq (al_ _ _) _
 have r0:=(Bh.new_ w [.slice A1 ps.length c1,.slice A2 bs.length c2,.slice A3 os.length c3] 26).call (al_ _ (.cells #[.int .i64 2,.slice A args.length cap,.int .i64 vn,.int .i64 ve,.int .i64 un,.int .i64 ue] 63))
 have r1:=Bh.new_ (w.alloc (.cells #[.slice A1 ps.length c1,.slice A2 bs.length c2,.slice A3 os.length c3] 26)) [.int .i64 2,.slice A args.length cap,.int .i64 vn,.int .i64 ve,.int .i64 un,.int .i64 ue] 63
 rw [show (w.alloc (.cells #[.slice A1 ps.length c1,.slice A2 bs.length c2,.slice A3 os.length c3] 26)).heap.size=w.heap.size+1 by simp] at r1
 have HA:=Lib.hid ha
 have HK0:=Lib.hid hk0
 have HK1:=Lib.hid hk1
 obtain ⟨K,hK⟩:∃ K,AU 2=K:=⟨_,rfl⟩
 have HKK:=Lib.hid hK
 have hne:(((args.length:Nat):Int) != K)=false:=by rw [hk1,hK];simp
 have hkk:0≤K:=by omega
 clear ha hk0 hk1 hK
 go_enter Tryz.func77,Tryz.ntmps77
 have HM:Hid (Dv ps.length bs.length 2=bs.length):=Lib.hid (rfl)
 have HV:Hid (La 2=true):=Lib.hid (by decide)
 have HU:Hid (EJ 2=false):=Lib.hid (by decide)
 go_wp2_with (go_at_call 167;refine (Dm _ _).mono ?_;rintro e w1 ⟨rfl,rfl⟩;rw [HKK.out])
 obtain ⟨W,hW⟩:∃ W,W=((w.alloc (.cells #[.slice A1 ps.length c1,.slice A2 bs.length c2,.slice A3 os.length c3] 26)).alloc (.cells #[.int .i64 2,.slice A args.length cap,.int .i64 vn,.int .i64 ve,.int .i64 un,.int .i64 ue] 63)):=⟨_,rfl⟩
 rw [←hW]
 rw [←hW] at r0 r1 b0
 have hWs:W.heap.size=w.heap.size+2:=by rw [hW];simp
 clear hW
 have q0:W.cell? ⟨w.heap.size+1,0,none⟩=some (.int .i64 2):=r1.cell 0
 have q2:W.cell? ⟨w.heap.size+1,2,none⟩=some (.int .i64 vn):=r1.cell 2
 have q3:W.cell? ⟨w.heap.size+1,3,none⟩=some (.int .i64 ve):=r1.cell 3
 have HB0:=Lib.hid b0
 have R1:=Lib.hid r1
 have HA2:=Lib.hid (HA.out.below b0 hm)
 have hbs1:(W.heap.size:Int)=w.heap.size+2:=by omega
 clear r0 r1 b0
 go_loopw [34] (fun i wr=>Fz args bs.length W i wr) (fun i _=>args.length - (intOf i).toNat)
 case atStart=>exact ⟨0,Nat.zero_le _,rfl,rfl,rfl⟩
 case round =>
  as_aux_lemma =>
   obtain ⟨t,ht,rfl,hf,rfl⟩:=hrel
   have HF:=Lib.hid hf
   clear hf
   by_cases hlt:t<args.length
   ·obtain ⟨ab,ao,z,rfl,hab,hab2,hz,hzc⟩:=HA2.out.int_ hlt
    have HZ:=Lib.hid hz
    clear hz
    by_cases h0:0≤z∧z<(bs.length:Int)
    ·have HZ2:=Lib.hid (Dh HZ.out h0 HF.out)
     have HWB:=Lib.hid (show Cd z 0 ((bs.length:Int) - 1)=true from decide_eq_true ⟨h0.1,by have:=h0.2;omega⟩)
     clear h0
     go_wp2_with (go_at_call 76;refine (Bu _ _ _ _).mono ?_;rintro e w1 ⟨rfl,rfl⟩;rw [HWB.out])
     exact ⟨⟨t+1,by omega,by go_num,HZ2.out,rfl⟩,by simp [intOf];omega⟩
    ·have hE:=Lib.hid (be3 (np:=ps.length) (nb:=bs.length) (b:=⟨2,some ⟨ab,ao,none⟩,args,cap,vn,ve,un,ue⟩) (Int.not_lt.2 HK0.out) HK1.out HM.out (CN HZ.out h0 HF.out))
     have HWB:=Lib.hid (show Cd z 0 ((bs.length:Int) - 1)=false from decide_eq_false (fun h=>h0 ⟨h.1,by have:=h.2;omega⟩))
     clear h0
     go_wp2_with (go_at_call 76;refine (Bu _ _ _ _).mono ?_;rintro e w1 ⟨rfl,rfl⟩;rw [HWB.out])
     go_ret
     exact ⟨CL hE.out.symm,HB0.out⟩
   ·have P1:=Lib.hid (DH (k:=t) (by rw [List.length_map];omega) HF.out)
    clear HF
    have hE4:=fun h=>be4 (np:=ps.length) (nb:=bs.length) (b:=⟨2,A,args,cap,vn,ve,un,ue⟩) (Int.not_lt.2 HK0.out) HK1.out HM.out P1.out HV.out h
    have hE5:=fun h4 h=>be5 (np:=ps.length) (nb:=bs.length) (b:=⟨2,A,args,cap,vn,ve,un,ue⟩) (Int.not_lt.2 HK0.out) HK1.out HM.out P1.out HV.out h4 HU.out h
    have hE6:=fun h4 h5 h=>be6 (np:=ps.length) (nb:=bs.length) (b:=⟨2,A,args,cap,vn,ve,un,ue⟩) (Int.not_lt.2 HK0.out) HK1.out HM.out P1.out HV.out h4 HU.out h5 h
    have hE7:=fun h4 h5 h=>be7 (np:=ps.length) (nb:=bs.length) (b:=⟨2,A,args,cap,vn,ve,un,ue⟩) (Int.not_lt.2 HK0.out) HK1.out HM.out P1.out HV.out h4 HU.out h5 h
    dsimp only at hE4 hE5 hE6 hE7
    have HE4:=Lib.hid hE4
    have HE5:=Lib.hid hE5
    have HE6:=Lib.hid hE6
    have HE7:=Lib.hid hE7
    clear hE4 hE5 hE6 hE7
    go_wp2_with fail
    go_at_call 168
    refine (Ce vn ve true wr).mono ?_
    rintro e w5 ⟨rfl,hb5⟩
    have N5:=Lib.hid (HB0.out.trans (hb5.mono (by omega)))
    have r5:=R1.out.call hb5
    have hz5:=hb5.size
    have z5:w.heap.size+1<w5.heap.size:=by omega
    have q4:w5.cell? ⟨w.heap.size+1,4,none⟩=some (.int .i64 un):=r5.cell 4
    have q5:w5.cell? ⟨w.heap.size+1,5,none⟩=some (.int .i64 ue):=r5.cell 5
    have R5:=Lib.hid r5
    clear r5 hb5 q0 q2 q3 hlt hbs1
    by_cases h4:BF vn ve true=0
    ·rw [h4]
     have H4:=Lib.hid h4
     clear h4
     go_wp2_with fail
     go_at_call 168
     refine (Ce un ue false w5).mono ?_
     rintro e w6 ⟨rfl,hb6⟩
     have N6:=Lib.hid (N5.out.trans (hb6.mono (by omega)))
     have r6:=R5.out.call hb6
     have hz6:=hb6.size
     have z6:w.heap.size+1<w6.heap.size:=by omega
     have q2:w6.cell? ⟨w.heap.size+1,2,none⟩=some (.int .i64 vn):=r6.cell 2
     have q3:w6.cell? ⟨w.heap.size+1,3,none⟩=some (.int .i64 ve):=r6.cell 3
     have q6:w6.cell? ⟨w.heap.size+1,4,none⟩=some (.int .i64 un):=r6.cell 4
     have q7:w6.cell? ⟨w.heap.size+1,5,none⟩=some (.int .i64 ue):=r6.cell 5
     clear r6 hb6 q4 q5 z5
     by_cases h5:BF un ue false=0
     ·rw [h5]
      have H5:=Lib.hid h5
      clear h5
      go_wp2_with fail
      go_ret
      exact ⟨CL (HE7.out H4.out H5.out (fun h=>by cases h.1)).symm,N6.out⟩
     ·have HE:=Lib.hid (HE5.out H4.out h5)
      obtain ⟨q,hq⟩:∃ q,BF un ue false=q:=⟨_,rfl⟩
      rw [hq] at h5 HE
      rw [hq]
      have hqb:(q != 0)=true:=by simpa using h5
      clear hq h5
      go_wp2_with fail
      go_ret
      exact ⟨CL HE.out.symm,N6.out⟩
    ·have HE:=Lib.hid (HE4.out h4)
     obtain ⟨q,hq⟩:∃ q,BF vn ve true=q:=⟨_,rfl⟩
     rw [hq] at h4 HE
     rw [hq]
     have hqb:(q != 0)=true:=by simpa using h4
     clear hq h4
     go_wp2_with fail
     go_ret
     exact ⟨CL HE.out.symm,N5.out⟩
theorem AcL (A1:Option Addr) (ps:List Prt) (c1:Nat) (A2:Option Addr) (bs:List Bk) (c2:Nat) (A3:Option Addr) (os:List Int) (c3:Nat) (A:Option Addr) (args:List Int) (cap:Nat) (vn ve un ue:Int) (m:Nat) (w:World)
  (hk0:¬ AU 6<0) (hk1:((args.length:Nat):Int)=AU 6) (hl:args.length≤1000000) (hl1:ps.length≤1000000) (hl2:bs.length≤1000000) (hm:m≤w.heap.size) (ha:Am w m A (CO args)) :
  Calls Tryz.prog 77 #[.agg #[.slice A1 ps.length c1,.slice A2 bs.length c2,.slice A3 os.length c3],.agg #[.int .i64 6,.slice A args.length cap,.int .i64 vn,.int .i64 ve,.int .i64 un,.int .i64 ue]] w fun e w'=>e=.returned (.int .i64 (BC ps.length bs.length ⟨6,A,args,cap,vn,ve,un,ue⟩))∧Below w.heap.size w w':=by
 have b0:Below w.heap.size w ((w.alloc (.cells #[.slice A1 ps.length c1,.slice A2 bs.length c2,.slice A3 os.length c3] 26)).alloc (.cells #[.int .i64 6,.slice A args.length cap,.int .i64 vn,.int .i64 ve,.int .i64 un,.int .i64 ue] 63)):=Aq (al_ _ _) _
 have r0:=(Bh.new_ w [.slice A1 ps.length c1,.slice A2 bs.length c2,.slice A3 os.length c3] 26).call (al_ _ (.cells #[.int .i64 6,.slice A args.length cap,.int .i64 vn,.int .i64 ve,.int .i64 un,.int .i64 ue] 63))
 have r1:=Bh.new_ (w.alloc (.cells #[.slice A1 ps.length c1,.slice A2 bs.length c2,.slice A3 os.length c3] 26)) [.int .i64 6,.slice A args.length cap,.int .i64 vn,.int .i64 ve,.int .i64 un,.int .i64 ue] 63
 rw [show (w.alloc (.cells #[.slice A1 ps.length c1,.slice A2 bs.length c2,.slice A3 os.length c3] 26)).heap.size=w.heap.size+1 by simp] at r1
 have HA:=Lib.hid ha
 have HK0:=Lib.hid hk0
 have HK1:=Lib.hid hk1
 obtain ⟨K,hK⟩:∃ K,AU 6=K:=⟨_,rfl⟩
 have HKK:=Lib.hid hK
 have hne:(((args.length:Nat):Int) != K)=false:=by rw [hk1,hK];simp
 have hkk:0≤K:=by omega
 clear ha hk0 hk1 hK
 go_enter Tryz.func77,Tryz.ntmps77
 have HM:Hid (Dv ps.length bs.length 6=bs.length):=Lib.hid (rfl)
 have HV:Hid (La 6=true):=Lib.hid (by decide)
 have HU:Hid (EJ 6=false):=Lib.hid (by decide)
 go_wp2_with (go_at_call 167;refine (Dm _ _).mono ?_;rintro e w1 ⟨rfl,rfl⟩;rw [HKK.out])
 obtain ⟨W,hW⟩:∃ W,W=((w.alloc (.cells #[.slice A1 ps.length c1,.slice A2 bs.length c2,.slice A3 os.length c3] 26)).alloc (.cells #[.int .i64 6,.slice A args.length cap,.int .i64 vn,.int .i64 ve,.int .i64 un,.int .i64 ue] 63)):=⟨_,rfl⟩
 rw [←hW]
 rw [←hW] at r0 r1 b0
 have hWs:W.heap.size=w.heap.size+2:=by rw [hW];simp
 clear hW
 have q0:W.cell? ⟨w.heap.size+1,0,none⟩=some (.int .i64 6):=r1.cell 0
 have q2:W.cell? ⟨w.heap.size+1,2,none⟩=some (.int .i64 vn):=r1.cell 2
 have q3:W.cell? ⟨w.heap.size+1,3,none⟩=some (.int .i64 ve):=r1.cell 3
 have HB0:=Lib.hid b0
 have R1:=Lib.hid r1
 have HA2:=Lib.hid (HA.out.below b0 hm)
 have hbs1:(W.heap.size:Int)=w.heap.size+2:=by omega
 clear r0 r1 b0
 go_loopw [34] (fun i wr=>Fz args bs.length W i wr) (fun i _=>args.length - (intOf i).toNat)
 case atStart=>exact ⟨0,Nat.zero_le _,rfl,rfl,rfl⟩
 case round =>
  as_aux_lemma =>
   obtain ⟨t,ht,rfl,hf,rfl⟩:=hrel
   have HF:=Lib.hid hf
   clear hf
   by_cases hlt:t<args.length
   ·obtain ⟨ab,ao,z,rfl,hab,hab2,hz,hzc⟩:=HA2.out.int_ hlt
    have HZ:=Lib.hid hz
    clear hz
    by_cases h0:0≤z∧z<(bs.length:Int)
    ·have HZ2:=Lib.hid (Dh HZ.out h0 HF.out)
     have HWB:=Lib.hid (show Cd z 0 ((bs.length:Int) - 1)=true from decide_eq_true ⟨h0.1,by have:=h0.2;omega⟩)
     clear h0
     go_wp2_with (go_at_call 76;refine (Bu _ _ _ _).mono ?_;rintro e w1 ⟨rfl,rfl⟩;rw [HWB.out])
     exact ⟨⟨t+1,by omega,by go_num,HZ2.out,rfl⟩,by simp [intOf];omega⟩
    ·have hE:=Lib.hid (be3 (np:=ps.length) (nb:=bs.length) (b:=⟨6,some ⟨ab,ao,none⟩,args,cap,vn,ve,un,ue⟩) (Int.not_lt.2 HK0.out) HK1.out HM.out (CN HZ.out h0 HF.out))
     have HWB:=Lib.hid (show Cd z 0 ((bs.length:Int) - 1)=false from decide_eq_false (fun h=>h0 ⟨h.1,by have:=h.2;omega⟩))
     clear h0
     go_wp2_with (go_at_call 76;refine (Bu _ _ _ _).mono ?_;rintro e w1 ⟨rfl,rfl⟩;rw [HWB.out])
     go_ret
     exact ⟨CL hE.out.symm,HB0.out⟩
   ·have P1:=Lib.hid (DH (k:=t) (by rw [List.length_map];omega) HF.out)
    clear HF
    have hE4:=fun h=>be4 (np:=ps.length) (nb:=bs.length) (b:=⟨6,A,args,cap,vn,ve,un,ue⟩) (Int.not_lt.2 HK0.out) HK1.out HM.out P1.out HV.out h
    have hE5:=fun h4 h=>be5 (np:=ps.length) (nb:=bs.length) (b:=⟨6,A,args,cap,vn,ve,un,ue⟩) (Int.not_lt.2 HK0.out) HK1.out HM.out P1.out HV.out h4 HU.out h
    have hE6:=fun h4 h5 h=>be6 (np:=ps.length) (nb:=bs.length) (b:=⟨6,A,args,cap,vn,ve,un,ue⟩) (Int.not_lt.2 HK0.out) HK1.out HM.out P1.out HV.out h4 HU.out h5 h
    have hE7:=fun h4 h5 h=>be7 (np:=ps.length) (nb:=bs.length) (b:=⟨6,A,args,cap,vn,ve,un,ue⟩) (Int.not_lt.2 HK0.out) HK1.out HM.out P1.out HV.out h4 HU.out h5 h
    dsimp only at hE4 hE5 hE6 hE7
    have HE4:=Lib.hid hE4
    have HE5:=Lib.hid hE5
    have HE6:=Lib.hid hE6
    have HE7:=Lib.hid hE7
    clear hE4 hE5 hE6 hE7
    go_wp2_with fail
    go_at_call 168
    refine (Ce vn ve true wr).mono ?_
    rintro e w5 ⟨rfl,hb5⟩
    have N5:=Lib.hid (HB0.out.trans (hb5.mono (by omega)))
    have r5:=R1.out.call hb5
    have hz5:=hb5.size
    have z5:w.heap.size+1<w5.heap.size:=by omega
    have q4:w5.cell? ⟨w.heap.size+1,4,none⟩=some (.int .i64 un):=r5.cell 4
    have q5:w5.cell? ⟨w.heap.size+1,5,none⟩=some (.int .i64 ue):=r5.cell 5
    have R5:=Lib.hid r5
    clear r5 hb5 q0 q2 q3 hlt hbs1
    by_cases h4:BF vn ve true=0
    ·rw [h4]
     have H4:=Lib.hid h4
     clear h4
     go_wp2_with fail
     go_at_call 168
     refine (Ce un ue false w5).mono ?_
     rintro e w6 ⟨rfl,hb6⟩
     have N6:=Lib.hid (N5.out.trans (hb6.mono (by omega)))
     have r6:=R5.out.call hb6
     have hz6:=hb6.size
     have z6:w.heap.size+1<w6.heap.size:=by omega
     have q2:w6.cell? ⟨w.heap.size+1,2,none⟩=some (.int .i64 vn):=r6.cell 2
     have q3:w6.cell? ⟨w.heap.size+1,3,none⟩=some (.int .i64 ve):=r6.cell 3
     have q6:w6.cell? ⟨w.heap.size+1,4,none⟩=some (.int .i64 un):=r6.cell 4
     have q7:w6.cell? ⟨w.heap.size+1,5,none⟩=some (.int .i64 ue):=r6.cell 5
     clear r6 hb6 q4 q5 z5
     by_cases h5:BF un ue false=0
     ·rw [h5]
      have H5:=Lib.hid h5
      clear h5
      go_wp2_with fail
      go_ret
      exact ⟨CL (HE7.out H4.out H5.out (fun h=>by cases h.1)).symm,N6.out⟩
     ·have HE:=Lib.hid (HE5.out H4.out h5)
      obtain ⟨q,hq⟩:∃ q,BF un ue false=q:=⟨_,rfl⟩
      rw [hq] at h5 HE
      rw [hq]
      have hqb:(q != 0)=true:=by simpa using h5
      clear hq h5
      go_wp2_with fail
      go_ret
      exact ⟨CL HE.out.symm,N6.out⟩
    ·have HE:=Lib.hid (HE4.out h4)
     obtain ⟨q,hq⟩:∃ q,BF vn ve true=q:=⟨_,rfl⟩
     rw [hq] at h4 HE
     rw [hq]
     have hqb:(q != 0)=true:=by simpa using h4
     clear hq h4
     go_wp2_with fail
     go_ret
     exact ⟨CL HE.out.symm,N5.out⟩
theorem AcM (A1:Option Addr) (ps:List Prt) (c1:Nat) (A2:Option Addr) (bs:List Bk) (c2:Nat) (A3:Option Addr) (os:List Int) (c3:Nat) (kind:Int) (A:Option Addr) (args:List Int) (cap:Nat) (vn ve un ue:Int) (m:Nat) (w:World) (h0:¬ kind=0) (h1:¬ kind=1) (h2:¬ kind=2) (h6:¬ kind=6) (h11:¬ kind=11)
  (hk0:¬ AU kind<0) (hk1:((args.length:Nat):Int)=AU kind) (hl:args.length≤1000000) (hl1:ps.length≤1000000) (hl2:bs.length≤1000000) (hm:m≤w.heap.size) (ha:Am w m A (CO args)) :
  Calls Tryz.prog 77 #[.agg #[.slice A1 ps.length c1,.slice A2 bs.length c2,.slice A3 os.length c3],.agg #[.int .i64 kind,.slice A args.length cap,.int .i64 vn,.int .i64 ve,.int .i64 un,.int .i64 ue]] w fun e w'=>e=.returned (.int .i64 (BC ps.length bs.length ⟨kind,A,args,cap,vn,ve,un,ue⟩))∧Below w.heap.size w w':=by
 have b0:Below w.heap.size w ((w.alloc (.cells #[.slice A1 ps.length c1,.slice A2 bs.length c2,.slice A3 os.length c3] 26)).alloc (.cells #[.int .i64 kind,.slice A args.length cap,.int .i64 vn,.int .i64 ve,.int .i64 un,.int .i64 ue] 63)):=Aq (al_ _ _) _
 have r0:=(Bh.new_ w [.slice A1 ps.length c1,.slice A2 bs.length c2,.slice A3 os.length c3] 26).call (al_ _ (.cells #[.int .i64 kind,.slice A args.length cap,.int .i64 vn,.int .i64 ve,.int .i64 un,.int .i64 ue] 63))
 have r1:=Bh.new_ (w.alloc (.cells #[.slice A1 ps.length c1,.slice A2 bs.length c2,.slice A3 os.length c3] 26)) [.int .i64 kind,.slice A args.length cap,.int .i64 vn,.int .i64 ve,.int .i64 un,.int .i64 ue] 63
 rw [show (w.alloc (.cells #[.slice A1 ps.length c1,.slice A2 bs.length c2,.slice A3 os.length c3] 26)).heap.size=w.heap.size+1 by simp] at r1
 have HA:=Lib.hid ha
 have HK0:=Lib.hid hk0
 have HK1:=Lib.hid hk1
 obtain ⟨K,hK⟩:∃ K,AU kind=K:=⟨_,rfl⟩
 have HKK:=Lib.hid hK
 have hne:(((args.length:Nat):Int) != K)=false:=by rw [hk1,hK];simp
 have hkk:0≤K:=by omega
 clear ha hk0 hk1 hK
 have e0:(kind == 0)=false:=by simpa using h0
 have e1:(kind == 1)=false:=by simpa using h1
 have e2:(kind == 2)=false:=by simpa using h2
 have e6:(kind == 6)=false:=by simpa using h6
 have e11:(kind == 11)=false:=by simpa using h11
 go_enter Tryz.func77,Tryz.ntmps77
 have HM:Hid (Dv ps.length bs.length kind=bs.length):=Lib.hid (if_neg h0)
 have HV:Hid (La kind=false):=Lib.hid (by unfold La;rw [e11,e1,e2,e6];rfl)
 have HU:Hid (EJ kind=false):=Lib.hid (e11)
 clear h0 h1 h2 h6 h11
 go_wp2_with (go_at_call 167;refine (Dm _ _).mono ?_;rintro e w1 ⟨rfl,rfl⟩;rw [HKK.out])
 obtain ⟨W,hW⟩:∃ W,W=((w.alloc (.cells #[.slice A1 ps.length c1,.slice A2 bs.length c2,.slice A3 os.length c3] 26)).alloc (.cells #[.int .i64 kind,.slice A args.length cap,.int .i64 vn,.int .i64 ve,.int .i64 un,.int .i64 ue] 63)):=⟨_,rfl⟩
 rw [←hW]
 rw [←hW] at r0 r1 b0
 have hWs:W.heap.size=w.heap.size+2:=by rw [hW];simp
 clear hW
 have q0:W.cell? ⟨w.heap.size+1,0,none⟩=some (.int .i64 kind):=r1.cell 0
 have q2:W.cell? ⟨w.heap.size+1,2,none⟩=some (.int .i64 vn):=r1.cell 2
 have q3:W.cell? ⟨w.heap.size+1,3,none⟩=some (.int .i64 ve):=r1.cell 3
 have HB0:=Lib.hid b0
 have R1:=Lib.hid r1
 have HA2:=Lib.hid (HA.out.below b0 hm)
 have hbs1:(W.heap.size:Int)=w.heap.size+2:=by omega
 clear r0 r1 b0
 go_loopw [34] (fun i wr=>Fz args bs.length W i wr) (fun i _=>args.length - (intOf i).toNat)
 case atStart=>exact ⟨0,Nat.zero_le _,rfl,rfl,rfl⟩
 case round =>
  as_aux_lemma =>
   obtain ⟨t,ht,rfl,hf,rfl⟩:=hrel
   have HF:=Lib.hid hf
   clear hf
   by_cases hlt:t<args.length
   ·obtain ⟨ab,ao,z,rfl,hab,hab2,hz,hzc⟩:=HA2.out.int_ hlt
    have HZ:=Lib.hid hz
    clear hz
    by_cases h0:0≤z∧z<(bs.length:Int)
    ·have HZ2:=Lib.hid (Dh HZ.out h0 HF.out)
     have HWB:=Lib.hid (show Cd z 0 ((bs.length:Int) - 1)=true from decide_eq_true ⟨h0.1,by have:=h0.2;omega⟩)
     clear h0
     go_wp2_with (go_at_call 76;refine (Bu _ _ _ _).mono ?_;rintro e w1 ⟨rfl,rfl⟩;rw [HWB.out])
     exact ⟨⟨t+1,by omega,by go_num,HZ2.out,rfl⟩,by simp [intOf];omega⟩
    ·have hE:=Lib.hid (be3 (np:=ps.length) (nb:=bs.length) (b:=⟨kind,some ⟨ab,ao,none⟩,args,cap,vn,ve,un,ue⟩) (Int.not_lt.2 HK0.out) HK1.out HM.out (CN HZ.out h0 HF.out))
     have HWB:=Lib.hid (show Cd z 0 ((bs.length:Int) - 1)=false from decide_eq_false (fun h=>h0 ⟨h.1,by have:=h.2;omega⟩))
     clear h0
     go_wp2_with (go_at_call 76;refine (Bu _ _ _ _).mono ?_;rintro e w1 ⟨rfl,rfl⟩;rw [HWB.out])
     go_ret
     exact ⟨CL hE.out.symm,HB0.out⟩
   ·have P1:=Lib.hid (DH (k:=t) (by rw [List.length_map];omega) HF.out)
    clear HF
    have hE4:=fun h=>be4 (np:=ps.length) (nb:=bs.length) (b:=⟨kind,A,args,cap,vn,ve,un,ue⟩) (Int.not_lt.2 HK0.out) HK1.out HM.out P1.out HV.out h
    have hE5:=fun h4 h=>be5 (np:=ps.length) (nb:=bs.length) (b:=⟨kind,A,args,cap,vn,ve,un,ue⟩) (Int.not_lt.2 HK0.out) HK1.out HM.out P1.out HV.out h4 HU.out h
    have hE6:=fun h4 h5 h=>be6 (np:=ps.length) (nb:=bs.length) (b:=⟨kind,A,args,cap,vn,ve,un,ue⟩) (Int.not_lt.2 HK0.out) HK1.out HM.out P1.out HV.out h4 HU.out h5 h
    have hE7:=fun h4 h5 h=>be7 (np:=ps.length) (nb:=bs.length) (b:=⟨kind,A,args,cap,vn,ve,un,ue⟩) (Int.not_lt.2 HK0.out) HK1.out HM.out P1.out HV.out h4 HU.out h5 h
    dsimp only at hE4 hE5 hE6 hE7
    have HE4:=Lib.hid hE4
    have HE5:=Lib.hid hE5
    have HE6:=Lib.hid hE6
    have HE7:=Lib.hid hE7
    clear hE4 hE5 hE6 hE7
    go_wp2_with fail
    go_at_call 168
    refine (Ce vn ve false wr).mono ?_
    rintro e w5 ⟨rfl,hb5⟩
    have N5:=Lib.hid (HB0.out.trans (hb5.mono (by omega)))
    have r5:=R1.out.call hb5
    have hz5:=hb5.size
    have z5:w.heap.size+1<w5.heap.size:=by omega
    have q4:w5.cell? ⟨w.heap.size+1,4,none⟩=some (.int .i64 un):=r5.cell 4
    have q5:w5.cell? ⟨w.heap.size+1,5,none⟩=some (.int .i64 ue):=r5.cell 5
    have R5:=Lib.hid r5
    clear r5 hb5 q0 q2 q3 hlt hbs1
    by_cases h4:BF vn ve false=0
    ·rw [h4]
     have H4:=Lib.hid h4
     clear h4
     go_wp2_with fail
     go_at_call 168
     refine (Ce un ue false w5).mono ?_
     rintro e w6 ⟨rfl,hb6⟩
     have N6:=Lib.hid (N5.out.trans (hb6.mono (by omega)))
     have r6:=R5.out.call hb6
     have hz6:=hb6.size
     have z6:w.heap.size+1<w6.heap.size:=by omega
     have q2:w6.cell? ⟨w.heap.size+1,2,none⟩=some (.int .i64 vn):=r6.cell 2
     have q3:w6.cell? ⟨w.heap.size+1,3,none⟩=some (.int .i64 ve):=r6.cell 3
     have q6:w6.cell? ⟨w.heap.size+1,4,none⟩=some (.int .i64 un):=r6.cell 4
     have q7:w6.cell? ⟨w.heap.size+1,5,none⟩=some (.int .i64 ue):=r6.cell 5
     clear r6 hb6 q4 q5 z5
     by_cases h5:BF un ue false=0
     ·rw [h5]
      have H5:=Lib.hid h5
      clear h5
      go_wp2_with fail
      go_ret
      exact ⟨CL (HE7.out H4.out H5.out (fun h=>by cases h.1)).symm,N6.out⟩
     ·have HE:=Lib.hid (HE5.out H4.out h5)
      obtain ⟨q,hq⟩:∃ q,BF un ue false=q:=⟨_,rfl⟩
      rw [hq] at h5 HE
      rw [hq]
      have hqb:(q != 0)=true:=by simpa using h5
      clear hq h5
      go_wp2_with fail
      go_ret
      exact ⟨CL HE.out.symm,N6.out⟩
    ·have HE:=Lib.hid (HE4.out h4)
     obtain ⟨q,hq⟩:∃ q,BF vn ve false=q:=⟨_,rfl⟩
     rw [hq] at h4 HE
     rw [hq]
     have hqb:(q != 0)=true:=by simpa using h4
     clear hq h4
     go_wp2_with fail
     go_ret
     exact ⟨CL HE.out.symm,N5.out⟩
theorem Xo (d:Dg) (b:Bk) (m:Nat) (w:World) (hm:m≤w.heap.size) (hb:Am w m b.A (CO b.args)) (hl:b.args.length≤1000000) (hl1:d.ps.length≤1000000) (hl2:d.bs.length≤1000000) :
  Calls Tryz.prog 77 #[d.val,b.val] w fun e w'=>e=.returned (.int .i64 (BC d.ps.length d.bs.length b))∧Below w.heap.size w w':=by
 by_cases h:0≤AU b.kind∧((b.args.length:Nat):Int)=AU b.kind
 ·obtain ⟨A1,ps,c1,A2,bs,c2,A3,os,c3⟩:=d
  obtain ⟨kind,A,args,cap,vn,ve,un,ue⟩:=b
  dsimp only at h hb hl hl1 hl2
  have hk0:¬ AU kind<0:=by omega
  by_cases h0:kind=0
  ·subst h0;exact AcI A1 ps c1 A2 bs c2 A3 os c3 A args cap vn ve un ue m w hk0 h.2 hl hl1 hl2 hm hb
  ·by_cases h1:kind=1
   ·subst h1;exact AcJ A1 ps c1 A2 bs c2 A3 os c3 A args cap vn ve un ue m w hk0 h.2 hl hl1 hl2 hm hb
   ·by_cases h2:kind=2
    ·subst h2;exact AcK A1 ps c1 A2 bs c2 A3 os c3 A args cap vn ve un ue m w hk0 h.2 hl hl1 hl2 hm hb
    ·by_cases h6:kind=6
     ·subst h6;exact AcL A1 ps c1 A2 bs c2 A3 os c3 A args cap vn ve un ue m w hk0 h.2 hl hl1 hl2 hm hb
     ·by_cases h11:kind=11
      ·subst h11;exact Zv A1 ps c1 A2 bs c2 A3 os c3 A args cap vn ve un ue m w hk0 h.2 hl hl1 hl2 hm hb
      ·exact AcM A1 ps c1 A2 bs c2 A3 os c3 kind A args cap vn ve un ue m w h0 h1 h2 h6 h11 hk0 h.2 hl hl1 hl2 hm hb
 ·exact Xn d b w h hl
theorem Zw {p q r:Int} (h:DR ⟨p,q,r⟩=0) : -2147483648≤p∧p≤q∧q<2147483648∧0≤r∧r≤30:=by
 unfold DR at h
 by_cases h2 : -2147483648≤p∧p≤q∧q<2147483648∧0≤r∧r≤30
 ·exact h2
 ·rw [if_neg h2] at h;cases h
theorem Xp {p q r:Int} (h:¬ DR ⟨p,q,r⟩=0):DR ⟨p,q,r⟩=3:=by
 unfold DR at h ⊢
 by_cases h2 : -2147483648≤p∧p≤q∧q<2147483648∧0≤r∧r≤30
 ·exact absurd (if_pos h2) h
 ·exact if_neg h2
theorem AcN {p q r:Int} (h : -2147483648≤p∧p≤q∧q<2147483648∧Cd r 0 30=true):DR ⟨p,q,r⟩=0:=by
 have h5:0≤r∧r≤30:=of_decide_eq_true h.2.2.2
 exact if_pos ⟨h.1,h.2.1,h.2.2.1,h5.1,h5.2⟩
theorem AeL (bs:List Bk):(Dc bs).length≤Dl bs:=(Ol bs.length (GO.nil bs)).le
theorem Ut (d:Dg) (m:Nat) (w:World) (hm:m≤w.heap.size) (hd:Ta w m d) :
    Calls Tryz.prog 25 #[d.val] w fun e w'=>e=.returned (.int .i64 (BN d.ps d.bs d.os))∧Below w.heap.size w w':=by
  have hl1:=hd.l1
  have hl2:=hd.l2
  have hl3:=hd.l3
  have HD:=Lib.hid hd
  clear hd
  obtain ⟨A1,ps,c1,A2,bs,c2,A3,os,c3⟩:=d
  dsimp only at hl1 hl2 hl3
  simp only [Dg.val]
  by_cases hsz:Ey ps bs os
  · have HSZ:=Lib.hid hsz
    clear hsz
    have l1':(ps.length:Int)≤16:=by have:=HSZ.out.1;omega
    have l2':(bs.length:Int)≤64:=by have:=HSZ.out.2.1;omega
    have l3':(os.length:Int)≤16:=by have:=HSZ.out.2.2;omega
    have r0:=Bh.new_ w [.slice A1 ps.length c1,.slice A2 bs.length c2,.slice A3 os.length c3] 26
    have b0:=al_ w (.cells #[.slice A1 ps.length c1,.slice A2 bs.length c2,.slice A3 os.length c3] 26)
    go_enter Tryz.func25,Tryz.ntmps25
    go_wp2_with fail
    all_goals try (exfalso;omega)
    go_loopw [29] (fun i wr=>Uj w [.slice A1 ps.length c1,.slice A2 bs.length c2,.slice A3 os.length c3] (ps.map DR) i wr) (fun i _=>ps.length - (intOf i).toNat)
    case atStart=>exact ⟨0,Nat.zero_le _,rfl,rfl,r0,b0⟩
    case round =>
      as_aux_lemma =>
        clear r0 b0
        obtain ⟨k,hk,rfl,hf,hbox,hb⟩:=hrel
        have HF:=Lib.hid hf
        have HB:=Lib.hid hbox
        have z0:=hbox.lt
        have q1:wr.cell? ⟨w.heap.size,1,none⟩=some (.slice A2 bs.length c2):=hbox.cell 1
        clear hf hbox
        rw [List.length_map] at hk
        by_cases hlt:k<ps.length
        · obtain ⟨b,off,x,rfl,hbm,hbs,hx,hc⟩:=(HD.out.below hb hm).ps.row (s:=3) (fun _=>rfl) (by omega) hlt
          obtain ⟨plo,phi,pfr⟩:=x
          have g0:wr.cell? ⟨b,off+k*3,none⟩=some (.int .i64 plo):=hc 0 _ rfl
          have g1:=hc 1 _ rfl
          have g2:=hc 2 _ rfl
          dsimp only at g1 g2
          have HX:=Lib.hid hx
          clear hc hx
          by_cases hp:DR ⟨plo,phi,pfr⟩=0
          · have HPE:=Lib.hid hp
            have hp2 : -2147483648≤plo∧plo≤phi∧phi<2147483648∧0≤pfr∧pfr≤30:=Zw hp
            obtain ⟨p1,p2,p3,p4,p5⟩:=hp2
            have HWB := Lib.hid (show Cd pfr 0 30 = true from decide_eq_true ⟨p4, p5⟩)
            clear hp
            go_wp2_with (go_at_call 76;refine (Bu _ _ _ _).mono ?_;rintro e w1 ⟨rfl,rfl⟩;rw [HWB.out])
            exact ⟨⟨k+1,by rw [List.length_map];omega,by go_num,fs1 HX.out HPE.out HF.out,HB.out.call (al_ _ _),Aq hb _⟩,by simp [intOf];omega⟩
          · have h3:DR ⟨plo,phi,pfr⟩=3:=Xp hp
            have HE:=Lib.hid (de1 HSZ.out (pe1 (bs:=bs) (os:=os) HX.out h3 (by decide) HF.out) (by decide))
            cases hwb:Cd pfr 0 30 with
            | true =>
              have hp2:¬ (-2147483648≤plo∧plo≤phi∧phi<2147483648):=fun h=>hp (AcN ⟨h.1,h.2.1,h.2.2,hwb⟩)
              have HP2:=Lib.hid hp2
              have HWB:=Lib.hid hwb
              clear hp h3 hp2 hwb
              go_wp2_with (go_at_call 76;refine (Bu _ _ _ _).mono ?_;rintro e w1 ⟨rfl,rfl⟩;rw [HWB.out])
              all_goals first
                | (go_ret
                   exact ⟨CL (HE.out).symm,Aq hb _⟩)
                | (exfalso;exact HP2.out ⟨by omega,by omega,by omega⟩)
            | false =>
              have HWB:=Lib.hid hwb
              clear hp h3 hwb
              go_wp2_with (go_at_call 76;refine (Bu _ _ _ _).mono ?_;rintro e w1 ⟨rfl,rfl⟩;rw [HWB.out])
              all_goals
                go_ret
                exact ⟨CL (HE.out).symm,Aq hb _⟩
        · have P1:=Lib.hid (DH (k:=k) (by rw [List.length_map];omega) HF.out)
          clear HF
          go_wp2_with fail
          clear q1 hk hlt
          obtain ⟨w2,hw2⟩:∃ w2,w2=wr:=⟨_,rfl⟩
          rw [←hw2] at HB hb
          rw [←hw2]
          clear hw2 z0
          go_loopw [58] (fun i wr=>Uj w [.slice A1 ps.length c1,.slice A2 bs.length c2,.slice A3 os.length c3] (bs.map (BC ps.length bs.length)) i wr) (fun i _=>bs.length - (intOf i).toNat)
          case atStart=>exact ⟨0,Nat.zero_le _,rfl,rfl,HB.out,hb⟩
          case round =>
            as_aux_lemma =>
              clear HB hb
              obtain ⟨k,hk,rfl,hf,hbox,hb⟩:=hrel
              have HF:=Lib.hid hf
              have HB:=Lib.hid hbox
              have z0:=hbox.lt
              have q0:wr.cell? ⟨w.heap.size,0,none⟩=some (.slice A1 ps.length c1):=hbox.cell 0
              have q1:wr.cell? ⟨w.heap.size,1,none⟩=some (.slice A2 bs.length c2):=hbox.cell 1
              have q2:wr.cell? ⟨w.heap.size,2,none⟩=some (.slice A3 os.length c3):=hbox.cell 2
              clear hf hbox
              rw [List.length_map] at hk
              by_cases hlt:k<bs.length
              · obtain ⟨b,off,kind,KA,args,cap,vn,ve,un,ue,hA,hbm,hbs,hx,g0,g1,g2,g3,g4,g5,ha,hal⟩:=(HD.out.below hb hm).blk hlt
                dsimp only at hA hx
                subst hA
                have HX:=Lib.hid hx
                have HA:=Lib.hid ha
                clear hx ha
                go_wp2_with fail
                go_at_call 77
                refine (Xo ⟨A1,ps,c1,some ⟨b,off,none⟩,bs,c2,A3,os,c3⟩ ⟨kind,KA,args,cap,vn,ve,un,ue⟩ m _ (by have:=hb.size;simp;omega) (HA.out.below (al_ _ _) (by have:=hb.size;omega)) hal hl1 hl2).mono ?_
                rintro e w5 ⟨rfl,hb5⟩
                dsimp only at hb5 ⊢
                have HB5:=Lib.hid ((HB.out.call (al_ _ _)).call hb5)
                have N5:=Lib.hid ((Aq hb (.cells #[.int .i64 kind,.slice KA args.length cap,.int .i64 vn,.int .i64 ve,.int .i64 un,.int .i64 ue] 63)).trans (hb5.mono (by have:=hb.size;simp;omega)))
                clear hb5 g0 g1 g2 g3 g4 g5 q0 q1 q2
                obtain ⟨E,hE⟩:∃ E,BC ps.length bs.length ⟨kind,KA,args,cap,vn,ve,un,ue⟩=E:=⟨_,rfl⟩
                have HEE:=Lib.hid hE
                rw [hE]
                clear hE
                by_cases he0:E=0
                · have HE0:=Lib.hid (HEE.out.trans he0)
                  rw [he0]
                  clear he0
                  go_wp2_with fail
                  exact ⟨⟨k+1,by rw [List.length_map];omega,by go_num,fs1 HX.out HE0.out HF.out,HB5.out,N5.out⟩,by simp [intOf];omega⟩
                · have HE:=Lib.hid (de1 HSZ.out (pe2 (os:=os) P1.out HX.out HEE.out he0 HF.out) he0)
                  obtain ⟨q,hq⟩:∃ q,E=q:=⟨_,rfl⟩
                  rw [hq] at he0 HE
                  rw [hq]
                  have hqb:(q != 0)=true:=by simpa using he0
                  clear hq he0
                  go_wp2_with fail
                  go_ret
                  exact ⟨CL HE.out.symm,N5.out⟩
              · have P2:=Lib.hid (DH (k:=k) (by rw [List.length_map];omega) HF.out)
                clear HF
                go_wp2_with fail
                clear q0 q1 q2 hk hlt
                obtain ⟨w3,hw3⟩:∃ w3,w3=wr:=⟨_,rfl⟩
                rw [←hw3] at HB hb
                rw [←hw3]
                clear hw3 z0
                go_loopw [72] (fun i wr=>Uj w [.slice A1 ps.length c1,.slice A2 bs.length c2,.slice A3 os.length c3] (os.map (Lo bs.length)) i wr) (fun i _=>os.length - (intOf i).toNat)
                case atStart=>exact ⟨0,Nat.zero_le _,rfl,rfl,HB.out,hb⟩
                case round =>
                  as_aux_lemma =>
                    clear HB hb
                    obtain ⟨k,hk,rfl,hf,hbox,hb⟩:=hrel
                    have HF:=Lib.hid hf
                    have HB:=Lib.hid hbox
                    have z0:=hbox.lt
                    have q0:wr.cell? ⟨w.heap.size,0,none⟩=some (.slice A1 ps.length c1):=hbox.cell 0
                    have q1:wr.cell? ⟨w.heap.size,1,none⟩=some (.slice A2 bs.length c2):=hbox.cell 1
                    have q2:wr.cell? ⟨w.heap.size,2,none⟩=some (.slice A3 os.length c3):=hbox.cell 2
                    clear hf hbox
                    rw [List.length_map] at hk
                    by_cases hlt:k<os.length
                    · obtain ⟨b,off,z,rfl,hbm,hbs,hx,hc⟩:=(HD.out.below hb hm).os.int_ hlt
                      have HX:=Lib.hid hx
                      clear hx
                      by_cases ho:0≤z∧z<(bs.length:Int)
                      · have HOE := Lib.hid (show Lo bs.length z = 0 from if_pos ho)
                        have HWB := Lib.hid (show Cd z 0 ((bs.length : Int) - 1) = true from decide_eq_true ⟨ho.1, by have := ho.2; omega⟩)
                        clear ho
                        go_wp2_with (go_at_call 76;refine (Bu _ _ _ _).mono ?_;rintro e w1 ⟨rfl,rfl⟩;rw [HWB.out])
                        exact ⟨⟨k+1,by rw [List.length_map];omega,by go_num,fs1 HX.out HOE.out HF.out,HB.out,hb⟩,by simp [intOf];omega⟩
                      · have HE:=Lib.hid (de1 HSZ.out (pe3 P1.out P2.out HX.out (if_neg ho) (by decide) HF.out) (by decide))
                        have HWB := Lib.hid (show Cd z 0 ((bs.length : Int) - 1) = false from decide_eq_false (fun h => ho ⟨h.1, by have := h.2; omega⟩))
                        clear ho
                        go_wp2_with (go_at_call 76;refine (Bu _ _ _ _).mono ?_;rintro e w1 ⟨rfl,rfl⟩;rw [HWB.out])
                        go_ret
                        exact ⟨CL (HE.out).symm,hb⟩
                    · have P3:=Lib.hid (DH (k:=k) (by rw [List.length_map];omega) HF.out)
                      have HE:=Lib.hid (de2 HSZ.out (pe4 P1.out P2.out P3.out))
                      have HSO:=Lib.hid (Rl P2.out)
                      clear HF
                      go_wp2_with fail
                      obtain ⟨w4,hw4⟩:∃ w4,w4=wr:=⟨_,rfl⟩
                      rw [←hw4] at z0 q0 q1 q2 hb
                      rw [←hw4]
                      have HB4:=Lib.hid hb
                      clear hw4 HB hb hlt hk
                      have hk:KP w4 (w.heap.size+1) w4:=⟨Below.refl _ _,by omega⟩
                      have hmw:m≤w4.heap.size:=by omega
                      have HD4:=Lib.hid (HD.out.below HB4.out hm)
                      go_region_held3 (fun w'=>(∀ b o,b<w.heap.size+1→w'.cell? ⟨b,o,none⟩=w4.cell? ⟨b,o,none⟩)∧KP w4 (w.heap.size+1) w')
                        (first
                          | (refine KP.all ?_
                             first
                               | assumption
                               | exact hk
                               | exact hk.drew))
                        (first
                          | (go_at_call 78;refine (Ue ⟨A1,ps,c1,A2,bs,c2,A3,os,c3⟩ m _ (by have:=hk.drew.fits;omega) (HD4.out.below hk.drew.is (by omega)) HSO.out).mono ?_;(rintro e w7 ⟨v7,rfl,D7,hb7⟩;have hk7:=hk.drew.call hb7;obtain ⟨A7,c7,rfl,_,_⟩:=D7.view;have hz7:=hk7.fits))
                          | (go_at_call 79;refine (Ub ⟨A1,ps,c1,A2,bs,c2,A3,os,c3⟩ m _ (by have:=hk7.fits;omega) (HD4.out.below hk7.is (by omega))).mono ?_;(rintro e w8 ⟨v8,rfl,D8,hb8⟩;have hk8:=hk7.call hb8;obtain ⟨A8,c8,rfl,_,_⟩:=D8.view;have hz8:=hk8.fits)))
                      have N9:=Lib.hid (HB4.out.trans (hk8.is.mono (by omega)))
                      try dsimp only
                      have e7:(Cs (Dc bs)).length=(Dc bs).length:=DU _
                      have e8:(Cs (CA bs)).length=(CA bs).length:=DU _
                      have e9:=Abv bs
                      have e10:=AeL bs
                      have hs7:((Cs (Dc bs)).length:Int)≤64:=by omega
                      have hs8:((Cs (CA bs)).length:Int)≤64:=by omega
                      have ew:IntKind.i64.wrap (((Cs (Dc bs)).length:Int)+((Cs (CA bs)).length:Int))=((Cs (Dc bs)).length:Int)+((Cs (CA bs)).length:Int):=IntWalk.i64_in _ ⟨by omega,by omega⟩
                      rw [ew]
                      clear ew
                      by_cases hor:(Dc bs).length=Dl bs
                      · have HE2:=Lib.hid (HE.out.trans (if_pos hor))
                        have et:(((Cs (Dc bs)).length:Int)+((Cs (CA bs)).length:Int) != (bs.length:Int))=false:=by
                          rw [bne_eq_false_iff_eq];omega
                        clear hor e7 e8 e9 e10 D7 D8 hb7 hb8 hk7 hk8
                        go_wp2_with fail
                        go_ret
                        exact ⟨CL (HE2.out).symm,N9.out⟩
                      · have HE2:=Lib.hid (HE.out.trans (if_neg hor))
                        have et:(((Cs (Dc bs)).length:Int)+((Cs (CA bs)).length:Int) != (bs.length:Int))=true:=by
                          rw [bne_iff_ne];omega
                        clear hor e7 e8 e9 e10 D7 D8 hb7 hb8 hk7 hk8
                        go_wp2_with fail
                        go_ret
                        exact ⟨CL (HE2.out).symm,N9.out⟩
  · have HE:=Lib.hid (de0 hsz)
    have b0:=al_ w (.cells #[.slice A1 ps.length c1,.slice A2 bs.length c2,.slice A3 os.length c3] 26)
    have key:16<(ps.length:Int)∨((ps.length:Int)≤16∧64<(bs.length:Int))∨((ps.length:Int)≤16∧(bs.length:Int)≤64∧16<(os.length:Int)):=by
      unfold Ey at hsz
      omega
    clear hsz
    rcases key with k1|⟨k1,k2⟩|⟨k1,k2,k3⟩
    all_goals
      go_enter Tryz.func25,Tryz.ntmps25
      go_wp2_with fail
      all_goals try (exfalso;omega)
      go_ret
      exact ⟨CL (HE.out).symm,b0⟩
def FA (ps:List Prt) (bs:List Bk) (os:List Int):Bool:=decide (ps.length≤40∧bs.length≤80∧os.length≤40) && bs.all fun b=>decide (b.args.length≤10)
theorem Xq (t:Bool) (ps:List Prt) (bs:List Bk) (os:List Int):CV Tryz.prog Ax 31 [aDg t ps bs os] [aB (FA ps bs os)]:=by
 refine cvz Tryz.func31 Tryz.ntmps31 ?_
 by_cases cp:40<ps.length
 case pos =>
  repeat' (with_reducible first|refine qq ?_|(refine Tx 0 ?_;refine Jn xBo ?_;refine Ja ?_)|(refine Tx 1 ?_;refine jF ?_;refine jD ?_;refine jN ?_;refine Jo xGt ?_;refine Jm ?_;(first|iterate 4 refine Jd ?_|(refine Jy (xFa CB Bt) ?_;refine Jy (xLd Bt) ?_;refine Jy (xLn Ae) ?_;refine Jy xGt ?_));refine Jo xPk ?_;refine Jm ?_;(first|iterate 4 refine Jd ?_|(refine Jy (xFa DP AM) ?_;refine Jy (xLd AM) ?_;refine Jy (xLn Ab) ?_;refine Jy xGt ?_));refine Jo xPk ?_)|(refine Tx 2 ?_;refine Ja ?_))
  exact Ap rfl (.cons_ (BL rfl (by unfold FA;rw [decide_eq_false (by omega)];rfl)) .nil_)
 by_cases cb:80<bs.length
 case pos =>
  repeat' (with_reducible first|refine qq ?_|(refine Tx 0 ?_;refine Jn xBo ?_;refine Ja ?_)|(refine Tx 1 ?_;refine jF ?_;refine jD ?_;refine jN ?_;refine Jo xGt ?_;refine Jm ?_;(first|iterate 4 refine Jd ?_|(refine Jy (xFa CB Bt) ?_;refine Jy (xLd Bt) ?_;refine Jy (xLn Ae) ?_;refine Jy xGt ?_));refine Jo xPk ?_;refine Jm ?_;(first|iterate 4 refine Jd ?_|(refine Jy (xFa DP AM) ?_;refine Jy (xLd AM) ?_;refine Jy (xLn Ab) ?_;refine Jy xGt ?_));refine Jo xPk ?_)|(refine Tx 2 ?_;refine Ja ?_))
  exact Ap rfl (.cons_ (BL rfl (by unfold FA;rw [decide_eq_false (by omega)];rfl)) .nil_)
 by_cases co:40<os.length
 case pos =>
  repeat' (with_reducible first|refine qq ?_|(refine Tx 0 ?_;refine Jn xBo ?_;refine Ja ?_)|(refine Tx 1 ?_;refine jF ?_;refine jD ?_;refine jN ?_;refine Jo xGt ?_;refine Jm ?_;(first|iterate 4 refine Jd ?_|(refine Jy (xFa CB Bt) ?_;refine Jy (xLd Bt) ?_;refine Jy (xLn Ae) ?_;refine Jy xGt ?_));refine Jo xPk ?_;refine Jm ?_;(first|iterate 4 refine Jd ?_|(refine Jy (xFa DP AM) ?_;refine Jy (xLd AM) ?_;refine Jy (xLn Ab) ?_;refine Jy xGt ?_));refine Jo xPk ?_)|(refine Tx 2 ?_;refine Ja ?_))
  exact Ap rfl (.cons_ (BL rfl (by unfold FA;rw [decide_eq_false (by omega)];rfl)) .nil_)
 repeat' (with_reducible first|refine qq ?_|(refine Tx 0 ?_;refine Jn xBo ?_;refine Ja ?_)|(refine Tx 1 ?_;refine jF ?_;refine jD ?_;refine jN ?_;refine Jo xGt ?_;refine Jm ?_;(first|iterate 4 refine Jd ?_|(refine Jy (xFa CB Bt) ?_;refine Jy (xLd Bt) ?_;refine Jy (xLn Ae) ?_;refine Jy xGt ?_));refine Jo xPk ?_;refine Jm ?_;(first|iterate 4 refine Jd ?_|(refine Jy (xFa DP AM) ?_;refine Jy (xLd AM) ?_;refine Jy (xLn Ab) ?_;refine Jy xGt ?_));refine Jo xPk ?_)|(refine Tx 3 ?_;refine jF ?_;refine jD ?_;refine jN ?_;refine Jm ?_))
 refine CF (F':=ofL [(1,vr 0),(22,vd (EX t bs)),(23,vi bs.length),(24,vi ((0:Nat)))]) (H':=[.box 26 [.d (Fk t ps),.d (EX t bs),.d (BQ t os)]]) (BM _ 1 ?_ ?_ ?_) ?_
 ·rfl
 ·exact mB rfl rfl
 ·exact ⟨AF rfl,trivial⟩
 refine Bp (fun n Fr H=>∃ k:Nat,k≤bs.length∧n=bs.length - k∧(bs.take k).all (fun b:Bk=>decide (b.args.length≤10))=true∧Fr=ofL [(1,vr 0),(22,vd (EX t bs)),(23,vi bs.length),(24,vi ((k:Nat)))]∧H=[.box 26 [.d (Fk t ps),.d (EX t bs),.d (BQ t os)]]) (n0:=bs.length) ⟨0,Nat.zero_le _,rfl,rfl,rfl,rfl⟩ ?_
 rintro n Fr H ⟨k,hk,rfl,hall,rfl,rfl⟩
 by_cases hlt:k<bs.length
 case pos =>
  obtain ⟨y,hy⟩:∃ y,bs[k]?=some y:=⟨_,List.getElem?_eq_getElem hlt⟩
  by_cases hy10:y.args.length≤10
  case pos =>
   repeat' (with_reducible first|refine qq ?_|(refine Tx 4 ?_;refine Jo xLt ?_)|(refine Tx 5 ?_;refine Jo (xIr Ae (Bo hy)) ?_;refine jA ?_;refine Jn (xAl Aw) ?_;refine Js (xSk Au) ?_)|(refine Tx 6 ?_;refine jF ?_;refine jD ?_;refine jN ?_;refine Jo xGt ?_)|(refine Tx 8 ?_;refine Jo xAd ?_;refine Jm ?_))
   refine ⟨_,_,BM _ 1 ?_ ?_ ?_,_,?_,k+1,by omega,rfl,Hp hy hall (decide_eq_true hy10),rfl,rfl⟩
   ·rfl
   ·exact mB rfl rfl
   ·exact ⟨AF rfl,trivial⟩
   ·omega
  case neg =>
   repeat' (with_reducible first|refine qq ?_|(refine Tx 4 ?_;refine Jo xLt ?_)|(refine Tx 5 ?_;refine Jo (xIr Ae (Bo hy)) ?_;refine jA ?_;refine Jn (xAl Aw) ?_;refine Js (xSk Au) ?_)|(refine Tx 6 ?_;refine jF ?_;refine jD ?_;refine jN ?_;refine Jo xGt ?_)|(refine Tx 7 ?_;refine Ja ?_))
   exact Ap rfl (.cons_ (BL rfl (by unfold FA;rw [show bs.all (fun b:Bk=>decide (b.args.length≤10))=false from List.all_eq_false.2 ⟨y,List.mem_of_getElem? hy,by rw [decide_eq_false hy10];exact Bool.false_ne_true⟩,Bool.and_false])) .nil_)
 obtain rfl:k=bs.length:=by omega
 rw [List.take_length] at hall
 repeat' (with_reducible first|refine qq ?_|(refine Tx 4 ?_;refine Jo xLt ?_)|(refine Tx 9 ?_;refine Ja ?_))
 exact Ap rfl (.cons_ (BL rfl (by unfold FA;rw [hall,decide_eq_true (by omega)];rfl)) .nil_)
theorem Xr (t:Bool) {ps:List Prt} {bs:List Bk} {os:List Int} (hl:Lb ps bs os):CVF Tryz.prog Ax 25 [aDg t ps bs os] [aI (BN ps bs os)]:=fun w S vs hg hlt ha=>by
 obtain ⟨v,rfl,hv⟩:=BW ha
 obtain ⟨d,rfl,hd,rfl,hz,rfl,_,_⟩:=Ow hlt hv hl
 refine (Ut d _ w (Nat.le_refl _) hd).mono fun e w' ⟨he,hb⟩=>?_
 rw [show BN d.ps d.bs d.os=BN d.ps bs d.os by rw [←FQ,hz,FQ]] at he
 exact ⟨_,he,BE.val rfl,hb⟩
theorem MF {ps:List Prt} {bs:List Bk} {os:List Int} (h:FA ps bs os=true):Lb ps bs os∧bs.length≤80:=by
 unfold FA at h
 rw [Bool.and_eq_true] at h
 have h1:=of_decide_eq_true h.1
 exact ⟨⟨by omega,by omega,by omega,fun b hb=>by have:=of_decide_eq_true (List.all_eq_true.1 h.2 b hb);omega⟩,h1.2.1⟩
def prtD:Prt:=⟨0,0,0⟩
def inpV (ps:List Prt) (inn:List Int) (n:Nat):List Int:=(List.range n).map fun i=>Afq (inn[i]?.getD 0) (ps[i]?.getD prtD).lo (ps[i]?.getD prtD).hi
structure HasB (vs:List (Option (Int × Nat))) (D:Nat→Prop) (B:Bool):Prop where
 at_:∀ i,D i→∃ p,vs[i]?=some (some p)∧Sm p 32000 65536∧(Dd p=true→B=true)
theorem Xs {p:Int × Nat} {n k:Nat} (h:Nf p.1 p.2) (hl:(Ad p.1.natAbs).length≤k) (hn:32*k≤n):Sm p n 65536:=by
 refine ⟨h,?_,h.1⟩
 have hlt:p.1.natAbs<2 ^ (32*(Ad p.1.natAbs).length):=by have:=BV (AV p.1.natAbs);rw [AE] at this;rw [Nat.pow_mul];exact this
 exact Nat.lt_of_lt_of_le hlt (Nat.pow_le_pow_right (by decide) (by omega))
def Qv (r s:Rv):Bool:=decide (r.nb=s.nb∧r.den=s.den∧r.ws=s.ws)
theorem AeM {p q:Int × Nat}:Qv (Gb p) (Gb q)=decide (p=q):=by
 unfold Qv
 refine decide_eq_decide.2 ⟨fun ⟨h1,h2,h3⟩=>?_,fun h=>by rw [h];exact ⟨rfl,rfl,rfl⟩⟩
 have:Gb p=Gb q:=by
  cases hp:Gb p;cases hq:Gb q
  simp_all
 rw [←MD p,this,MD]
section
variable {P:Program} {G:World→Prop} {o:Oper} {F:Frm} {H:List Ob}
theorem Zx {t t':TypeId} {x y:Operand} {p q:Bool} (ho:o.op=.binOp .neq t x y t') (ht:P.underlying t=some .bool) (hx:F.ev x=.one (.d (.val (.bool p)))) (hy:F.ev y=.one (.d (.val (.bool q)))) (h:¬ p=q):Bs P G o F H (.one (.d (.val (.bool true)))) []:=by
 have:=Ru (P:=P) (G:=G) (H:=H) ho ht hx hy
 rwa [show (p != q)=true by cases p <;> cases q <;> simp_all] at this
theorem OS {t t':TypeId} {x y:Operand} {p q:Bool} (ho:o.op=.binOp .neq t x y t') (ht:P.underlying t=some .bool) (hx:F.ev x=.one (.d (.val (.bool p)))) (hy:F.ev y=.one (.d (.val (.bool q)))) (h:p=q):Bs P G o F H (.one (.d (.val (.bool false)))) []:=by
 have:=Ru (P:=P) (G:=G) (H:=H) ho ht hx hy
 rwa [show (p != q)=false by subst h;cases p <;> rfl] at this
end
theorem Zy {α:Type} {l m:List α} {k:Nat} {x:α} (h:l.take k=m.take k) (h1:l[k]?=some x) (h2:m[k]?=some x):l.take (k+1)=m.take (k+1):=by rw [List.take_add_one,List.take_add_one,h,h1,h2]
theorem Agr {α:Type} {l m:List α} {k:Nat} {x y:α} (h1:l[k]?=some x) (h2:m[k]?=some y) (h:x≠y):l≠m:=fun e=>h (by subst e;rw [h1] at h2;exact Option.some.inj h2)
theorem Xt (t u:Bool) (r s:Rv) (hr:r.ws.length≤1000000) (hs:s.ws.length≤1000000):CV Tryz.prog Ax 27 [aRv t r,aRv u s] [aB (Qv r s)]:=by
 refine cvz Tryz.func27 Tryz.ntmps27 ?_
 have l1:r.ws.length≤1000000:=hr
 have l2:s.ws.length≤1000000:=hs
 by_cases hb:r.nb=s.nb
 case neg =>
  repeat' (with_reducible first|refine qq ?_|(refine Tx 0 ?_;refine Jn xBo ?_;refine Jn xBo ?_;refine Ja ?_)|(refine Tx 1 ?_;refine jF ?_;refine jD ?_;refine jF ?_;refine jD ?_;refine Jo (by first|exact Zx rfl Tryz.underlying4 rfl rfl hb|exact xNe) ?_;refine Jm ?_;(first|iterate 5 refine Jd ?_|(refine Jy (xFa Bm Al) ?_;refine Jy (xLd Al) ?_;refine Jy (xFa Bm Al) ?_;refine Jy (xLd Al) ?_;refine Jy xNe ?_));refine Jo xPk ?_;refine Jm ?_;(first|iterate 7 refine Jd ?_|(refine Jy (xFa BH AG) ?_;refine Jy (xLd AG) ?_;refine Jy (xLn Bc) ?_;refine Jy (xFa BH AG) ?_;refine Jy (xLd AG) ?_;refine Jy (xLn Bc) ?_;refine Jy xNe ?_));refine Jo xPk ?_)|(refine Tx 2 ?_;refine Ja ?_))
  exact Ap rfl (.cons_ (BL rfl (by unfold Qv;rw [decide_eq_false (fun h=>hb h.1)])) .nil_)
 by_cases hd:r.den=s.den
 case neg =>
  repeat' (with_reducible first|refine qq ?_|(refine Tx 0 ?_;refine Jn xBo ?_;refine Jn xBo ?_;refine Ja ?_)|(refine Tx 1 ?_;refine jF ?_;refine jD ?_;refine jF ?_;refine jD ?_;refine Jo (by first|exact OS rfl Tryz.underlying4 rfl rfl hb|exact xNe) ?_;refine Jm ?_;(first|iterate 5 refine Jd ?_|(refine Jy (xFa Bm Al) ?_;refine Jy (xLd Al) ?_;refine Jy (xFa Bm Al) ?_;refine Jy (xLd Al) ?_;refine Jy xNe ?_));refine Jo xPk ?_;refine Jm ?_;(first|iterate 7 refine Jd ?_|(refine Jy (xFa BH AG) ?_;refine Jy (xLd AG) ?_;refine Jy (xLn Bc) ?_;refine Jy (xFa BH AG) ?_;refine Jy (xLd AG) ?_;refine Jy (xLn Bc) ?_;refine Jy xNe ?_));refine Jo xPk ?_)|(refine Tx 2 ?_;refine Ja ?_))
  exact Ap rfl (.cons_ (BL rfl (by unfold Qv;rw [decide_eq_false (fun h=>hd h.2.1)])) .nil_)
 by_cases hl:r.ws.length=s.ws.length
 case neg =>
  repeat' (with_reducible first|refine qq ?_|(refine Tx 0 ?_;refine Jn xBo ?_;refine Jn xBo ?_;refine Ja ?_)|(refine Tx 1 ?_;refine jF ?_;refine jD ?_;refine jF ?_;refine jD ?_;refine Jo (by first|exact OS rfl Tryz.underlying4 rfl rfl hb|exact xNe) ?_;refine Jm ?_;(first|iterate 5 refine Jd ?_|(refine Jy (xFa Bm Al) ?_;refine Jy (xLd Al) ?_;refine Jy (xFa Bm Al) ?_;refine Jy (xLd Al) ?_;refine Jy xNe ?_));refine Jo xPk ?_;refine Jm ?_;(first|iterate 7 refine Jd ?_|(refine Jy (xFa BH AG) ?_;refine Jy (xLd AG) ?_;refine Jy (xLn Bc) ?_;refine Jy (xFa BH AG) ?_;refine Jy (xLd AG) ?_;refine Jy (xLn Bc) ?_;refine Jy xNe ?_));refine Jo xPk ?_)|(refine Tx 2 ?_;refine Ja ?_))
  exact Ap rfl (.cons_ (BL rfl (by unfold Qv;rw [decide_eq_false (fun h=>hl (by rw [h.2.2]))])) .nil_)
 repeat' (with_reducible first|refine qq ?_|(refine Tx 0 ?_;refine Jn xBo ?_;refine Jn xBo ?_;refine Ja ?_)|(refine Tx 1 ?_;refine jF ?_;refine jD ?_;refine jF ?_;refine jD ?_;refine Jo (by first|exact OS rfl Tryz.underlying4 rfl rfl hb|exact xNe) ?_;refine Jm ?_;(first|iterate 5 refine Jd ?_|(refine Jy (xFa Bm Al) ?_;refine Jy (xLd Al) ?_;refine Jy (xFa Bm Al) ?_;refine Jy (xLd Al) ?_;refine Jy xNe ?_));refine Jo xPk ?_;refine Jm ?_;(first|iterate 7 refine Jd ?_|(refine Jy (xFa BH AG) ?_;refine Jy (xLd AG) ?_;refine Jy (xLn Bc) ?_;refine Jy (xFa BH AG) ?_;refine Jy (xLd AG) ?_;refine Jy (xLn Bc) ?_;refine Jy xNe ?_));refine Jo xPk ?_)|(refine Tx 3 ?_;refine jF ?_;refine jD ?_;refine jN ?_;refine Jm ?_))
 refine CF (F':=ofL [(2,vr 0),(3,vr 1),(29,vi r.ws.length),(30,vi ((0:Nat)))]) (H':=[.box 43 ((dRv t r).map C.d),.box 43 ((dRv u s).map C.d)]) (BM _ 2 ?_ ?_ ?_) ?_
 ·rfl
 ·exact mB rfl rfl
 ·exact ⟨Eb,Eb,trivial⟩
 refine Bp (fun n Fr H=>∃ k:Nat,k≤r.ws.length∧n=r.ws.length - k∧r.ws.take k=s.ws.take k∧Fr=ofL [(2,vr 0),(3,vr 1),(29,vi r.ws.length),(30,vi ((k:Nat)))]∧H=[.box 43 ((dRv t r).map C.d),.box 43 ((dRv u s).map C.d)]) (n0:=r.ws.length) ⟨0,Nat.zero_le _,rfl,rfl,rfl,rfl⟩ ?_
 rintro n Fr H ⟨k,hk,rfl,he,rfl,rfl⟩
 by_cases hlt:k<r.ws.length
 case pos =>
  obtain ⟨p,hp⟩:∃ p,r.ws[k]?=some p:=⟨_,List.getElem?_eq_getElem hlt⟩
  obtain ⟨q,hq⟩:∃ q,s.ws[k]?=some q:=⟨_,List.getElem?_eq_getElem (by omega)⟩
  by_cases e:p=q
  case neg =>
   repeat' (with_reducible first|refine qq ?_|(refine Tx 4 ?_;refine Jo xLt ?_)|(refine Tx 5 ?_;refine Jm ?_;refine Ja ?_)|(refine AZ (id:=6) AK (by kernel_rfl) ?_;refine kF ?_;refine kD ?_;refine Km ?_;refine Ko (by first|exact xIr Bc (Fl hp)|exact xIr Bc (Fl hq)) ?_;refine kD ?_;refine kF ?_;refine kD ?_;refine Km ?_;refine Ko (by first|exact xIr Bc (Fl hp)|exact xIr Bc (Fl hq)) ?_;refine kD ?_;refine Ko xNe ?_;refine Ke ?_)|(refine Tx 7 ?_;refine Ja ?_))
   exact Ap rfl (.cons_ (BL rfl (by unfold Qv;rw [decide_eq_false (fun h=>Agr hp hq e h.2.2)])) .nil_)
  subst e
  repeat' (with_reducible first|refine qq ?_|(refine Tx 4 ?_;refine Jo xLt ?_)|(refine Tx 5 ?_;refine Jm ?_;refine Ja ?_)|(refine AZ (id:=6) AK (by kernel_rfl) ?_;refine kF ?_;refine kD ?_;refine Km ?_;refine Ko (by first|exact xIr Bc (Fl hp)|exact xIr Bc (Fl hq)) ?_;refine kD ?_;refine kF ?_;refine kD ?_;refine Km ?_;refine Ko (by first|exact xIr Bc (Fl hp)|exact xIr Bc (Fl hq)) ?_;refine kD ?_;refine Ko xNe ?_;refine Ke ?_)|(refine Tx 8 ?_;refine Jo xAd ?_;refine Jm ?_))
  refine ⟨_,_,BM _ 2 ?_ ?_ ?_,_,by omega,k+1,by omega,rfl,Zy he hp hq,rfl,rfl⟩
  ·rfl
  ·exact mB rfl rfl
  ·exact ⟨Eb,Eb,trivial⟩
 obtain rfl:k=r.ws.length:=by omega
 clear hlt hk
 rw [List.take_length,hl,List.take_length] at he
 repeat' (with_reducible first|refine qq ?_|(refine Tx 4 ?_;refine Jo xLt ?_)|(refine Tx 9 ?_;refine Ja ?_))
 exact Ap rfl (.cons_ (BL rfl (by unfold Qv;rw [decide_eq_true ⟨hb,hd,he⟩])) .nil_)
theorem Tv (t u:Bool) (p q:Int × Nat) (l1:(Ad p.1.natAbs).length≤1000000) (l2:(Ad q.1.natAbs).length≤1000000):CV Tryz.prog Ax 27 [aDy t p.1 p.2,aDy u q.1 q.2] [aB (decide (p=q))]:=by
 have:=Xt t u (Gb p) (Gb q) l1 l2
 rw [AeM] at this
 unfold aRv at this
 rwa [ME,ME] at this
def LenOk (l:List (Int × Nat)):Prop:=∀ p∈l,(Ad p.1.natAbs).length≤1000000
end Go.Proofs.YtmdfjbpggbhgnaaGreatDoor
