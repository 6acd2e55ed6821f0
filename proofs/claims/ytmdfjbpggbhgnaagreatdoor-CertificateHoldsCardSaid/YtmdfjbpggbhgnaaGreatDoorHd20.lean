/- What the proofs of this claim share, part 20. No conditions. -/
import Derived.Test.YtmdfjbpggbhgnaaGreatDoorHd9
import Derived.Test.YtmdfjbpggbhgnaaGreatDoorHd18
import Derived.Test.YtmdfjbpggbhgnaaGreatDoorHd15
import Derived.Test.YtmdfjbpggbhgnaaGreatDoorHd19
import Derived.Test.YtmdfjbpggbhgnaaGreatDoorHd5
import Derived.Test.YtmdfjbpggbhgnaaGreatDoorHd16
import Derived.Test.YtmdfjbpggbhgnaaGreatDoorHd11
import Derived.Test.YtmdfjbpggbhgnaaGreatDoorHd10
import Derived.Test.YtmdfjbpggbhgnaaGreatDoorHd17
import Derived.Test.YtmdfjbpggbhgnaaGreatDoorHd14
import Derived.Lib.AppendZerosOnto
import Derived.Maps.AppendAt
set_option maxRecDepth 100000
set_option maxHeartbeats 8000000
set_option linter.all false
open Go.Proofs.Tryz
namespace Go.Proofs.YtmdfjbpggbhgnaaGreatDoor
open Go.RowKit
variable {b i j n:Nat} {bs:List Bk} {F inn os:List Int} {a e s z:Int} {ps:List Prt} {H:List Ob} {xs:List Ins} {p p':Prop} {st:List Int × Bool} {l:List Pq} {w:World}
section
variable {P:Program} {G:World→Prop} {o:Oper} {F:Frm} {H:List Ob}
def AtK {t e:TypeId} {x y:Operand} {id m' n' s by_:Nat} {tg:Bool} {z:Value} {cs cs2:List C} {ds:List D} (ho:o.op=.call { callee:=.builtin .append,args:=#[x,y],argTypes:=#[t,t] }) (hx:F.ev x=.one (.own id n)) (hH:H[id]?=some (.row e s n cs)) (hy:F.ev y=.one (.d (.row tg s m' ds))) (ht:TyS P t e s) (hz:TyZ P e z s by_) (hn:n+m'≤100000000000) (hby:by_≤1000) (h0:0<s) (hl:ds.length=m'*s) (hys:cs++ds.map C.d=cs2) (hn':n+m'=n'):TOk P G o F H (.one (.own id n')) (H.set id (.row e s n' cs2)):=by
 subst hys
 subst hn'
 exact Qs ho hx hH hy .row ht hz hn h0 hby (by simp [hl])
end
open Cd
def FA (n e f:Int):Bh (DM n e f)=true:=by
 unfold DM
 by_cases h:BX n e f=0
 ·rw [if_pos h]
  unfold BX at h
  by_cases h1:Hw n e f
  ·rw [if_pos h1] at h
   by_cases h2 : -2147483648≤shE n (e+f)∧shE n (e+f)<2147483648
   ·exact decide_eq_true h2
   ·rw [if_neg h2] at h;cases h
  ·rw [if_neg h1] at h;cases h
 ·rw [if_neg h];rfl
def Tq (bs:List Bk) (F:List Int) (j:Nat):Bh (Ev bs F j)=true:=by
 unfold Ev
 split
 ·exact FA _ _ _
 ·rfl
def AbQ (bs:List Bk) (F:List Int) (j:Nat):Bh (Hi bs F j)=true:=by
 unfold Hi
 split
 ·exact FA _ _ _
 ·rfl
def Tr (h:z∈CD bs F):Bh z=true:=by
 unfold CD at h
 rcases List.mem_append.1 h with h|h
 ·rcases List.mem_append.1 h with h|h
  ·obtain ⟨j,_,rfl⟩:=List.mem_map.1 h
   split
   ·exact Tq _ _ _
   ·rfl
  ·rw [(List.mem_replicate.1 h).2];rfl
 ·obtain ⟨j,_,h⟩:=List.mem_flatMap.1 h
  simp only [bz,ce,or_false] at h
  rcases h with rfl|rfl
  ·exact Tq _ _ _
  ·exact AbQ _ _ _
def Ld (bs:List Bk) (F:List Int):(CD bs F).length=bs.length+(dlK bs bs.length).length+2*(cpK bs bs.length).length:=by
 unfold CD
 rw [ak,ak,Fu,dt,WE,HH]
def WY (bs:List Bk):∀ k,(dlK bs k).length+(cpK bs k).length≤k
 | 0=>aa _
 | k+1=>by
  have ih:=WY bs k
  rw [IU,IV]
  by_cases h:AK bs k=2
  ·rw [if_pos h,if_neg (by omega),ak]
   simp
   omega
  ·rw [if_neg h]
   split
   ·rw [ak]
    simp
    omega
   ·omega
def Aas (p q:Nat→Bool) (h:∀ i,p i=true→q i=true→False):∀ l:List Nat,(l.filter p).length+(l.filter q).length≤l.length
 | []=>aa _
 | x::l=>by
  have ih:=Aas p q h l
  rw [mq,mq]
  cases hp:p x <;> cases hq:q x
  ·simp only [du,if_false,bi];omega
  ·simp only [du,if_false,if_true,bi];omega
  ·simp only [du,if_false,if_true,bi];omega
  ·exact (h x hp hq).elim
def Apc (bs:List Bk):(Bn bs).length+(dlK bs bs.length).length≤bs.length:=by
 have h1:=(GR bs.length (Gi.nil bs)).le
 have h2:EB bs+(dlK bs bs.length).length≤bs.length:=by
  have:=Aas (fun i=>AK bs i != 2) (fun i=>AK bs i == 2) (fun i h1 h2=>by simp at h1 h2;exact h1 h2) (List.range bs.length)
  rw [fz] at this
  exact this
 have h3:(Bn bs).length≤EB bs:=h1
 omega
def LV {np:Nat} {op dst b sa sb imm:Int} {u1 u2 u3 u4 u5:Bool} (hu:CF op=(u1,u2,u3,u4,u5,true)) (hd:0≤dst∧dst<n) (ha:if u1=true then 0≤a∧a<(if op=0 then (np:Int) else n) else a=0) (hb:if u2=true then 0≤b∧b<n else b=0)
  (hsa:if u3=true then Gd sa=true else sa=0) (hsb:if u4=true then Gd sb=true else sb=0) (him:if u5=true then Bh imm=true else imm=0):DP np n op dst a b sa sb imm=0:=by
 unfold DP
 rw [hu]
 dsimp only
 rw [if_neg (by decide),if_neg (not_not_intro hd)]
 cases u1 <;> cases u2 <;> cases u3 <;> cases u4 <;> cases u5 <;> simp_all
def AvA (he:AO ps bs os=0):∀ o∈os,0≤o∧o<(bs.length:Int):=fun o ho=>by
 have h1:=(Lz he).2.1
 unfold ER at h1
 rw [AQ] at h1
 by_cases h2:Ak (ps.map Gj)=0
 ·rw [if_pos h2,AQ] at h1
  by_cases h3:Ak (bs.map (Cp ps.length bs.length))=0
  ·rw [if_pos h3] at h1
   have h4:=CC h1 _ (List.mem_map.2 ⟨o,ho,rfl⟩)
   unfold QL at h4
   by_cases h5:0≤o∧o<(bs.length:Int)
   ·exact h5
   ·rw [if_neg h5] at h4;cases h4
  ·rw [if_neg h3] at h1;exact absurd h1 h3
 ·rw [if_neg h2] at h1;exact absurd h1 h2
section
variable {ps:List Prt} {bs:List Bk} {os F:List Int}
def AtL (he:AO ps bs os=0) {j:Nat} (hjn:j<bs.length) (hk2:AK bs j≠2) (hsh:(Fv ps bs F j (AY bs j)).all Ais=true):∀ x∈Fv ps bs F j (AY bs j),Ins.err ps.length (CD bs F).length x=0:=by
 obtain ⟨y,hy⟩:∃ y,bs[j]?=some y:=⟨_,gE hjn⟩
 have hac:=Co he hy
 have hYA:=CX hy
 have hYK:=Cw hy
 have hM:=Ld bs F
 have sh:∀ x∈Fv ps bs F j (AY bs j),Gd x.sa=true∧Gd x.sb=true:=fun x hx=>by
  have:=of_decide_eq_true (List.all_eq_true.1 hsh x hx)
  exact ⟨decide_eq_true ⟨this.1,this.2.1⟩,decide_eq_true this.2.2⟩
 rw [hYK] at hk2
 have hjd:(0:Int)≤(j:Int)∧(j:Int)<((CD bs F).length:Int):=by omega
 have args:∀ i a,y.args[i]?=some a→0≤a∧a<(Cy ps.length bs.length y.kind:Int):=fun i a h=>hac.2.2 a (gM h)
 have c11:y.kind=11→0≤AY bs j∧AY bs j+1<((CD bs F).length:Int):=fun k11=>by
  have hrk:=OE hjn (hYK.trans k11)
  unfold AY
  rw [hYK,if_neg (by omega),if_pos k11]
  omega
 have one:∀ n:Nat,((y.args.length:Nat):Int)=Bc y.kind→Bc y.kind=n→∀ i,i<n→∃ a,y.args[i]?=some a:=fun n h1 h2 i hi=>⟨_,gE (by omega)⟩
 intro x hx
 have hs:=sh x hx
 clear sh hsh
 unfold Fv at hx
 dsimp only at hx
 rw [hYA] at hx
 unfold Ins.err
 have a0:1≤y.args.length→∃ a,y.args[0]?=some a∧Bi y=a:=fun h=>by
  obtain ⟨a,ha⟩:∃ a,y.args[0]?=some a:=⟨_,gE (by omega)⟩
  exact ⟨a,ha,by unfold Bi;rw [ha];rfl⟩
 have a1:2≤y.args.length→∃ a,y.args[1]?=some a∧Dk y=a:=fun h=>by
  obtain ⟨a,ha⟩:∃ a,y.args[1]?=some a:=⟨_,gE (by omega)⟩
  exact ⟨a,ha,by unfold Dk;rw [ha];rfl⟩
 have hM0:y.kind≠0→Cy ps.length bs.length y.kind=bs.length:=fun h=>if_neg h
 have har:=hac.2.1
 have hge:=hac.1
 by_cases k0:y.kind=0
 ·rw [if_pos k0] at hx
  obtain ⟨a,h1,h2⟩:=a0 (by rw [k0] at har;simp [Bc] at har;omega)
  have h3:=args 0 a h1
  rw [show Cy ps.length bs.length y.kind=ps.length from if_pos k0] at h3
  simp only [jc] at hx
  subst hx
  exact LV (u1:=true) (u2:=false) (u3:=true) (u4:=false) (u5:=false) rfl hjd (by simpa [h2] using h3) rfl hs.1 rfl rfl
 rw [if_neg k0] at hx
 have hm:=hM0 k0
 by_cases k1:y.kind=1
 ·rw [if_pos k1] at hx
  simp only [jc] at hx
  subst hx
  exact LV (u1:=false) (u2:=false) (u3:=false) (u4:=false) (u5:=true) rfl hjd rfl rfl rfl rfl (FA _ _ _)
 rw [if_neg k1] at hx
 obtain ⟨a,h1,h2⟩:=a0 (by unfold Bc at har hge;(repeat' split at har) <;> omega)
 have h3:=args 0 a h1
 rw [hm] at h3
 by_cases k6:y.kind=6
 ·rw [if_pos k6] at hx
  have hv:=HW he hy (by rw [k6];rfl)
  unfold Dn at hv
  simp only [jc] at hx
  subst hx
  exact LV (u1:=true) (u2:=false) (u3:=true) (u4:=false) (u5:=true) rfl hjd (by show 0≤Bi y∧Bi y<(if (6:Int)=0 then (ps.length:Int) else ((CD bs F).length:Int));rw [h2,if_neg (by decide)];omega) rfl hs.1 rfl (decide_eq_true ⟨by show -2147483648≤y.vn;omega,hv.2.1⟩)
 rw [if_neg k6] at hx
 by_cases k7:y.kind=7
 ·rw [if_pos k7] at hx
  obtain ⟨b,g1,g2⟩:=a1 (by rw [k7] at har;simp [Bc] at har;omega)
  have g3:=args 1 b g1
  rw [hm] at g3
  simp only [jc] at hx
  subst hx
  exact LV (u1:=true) (u2:=true) (u3:=true) (u4:=false) (u5:=false) rfl hjd (by show 0≤Bi y∧Bi y<(if (7:Int)=0 then (ps.length:Int) else ((CD bs F).length:Int));rw [h2,if_neg (by decide)];omega) (by show 0≤Dk y∧Dk y<((CD bs F).length:Int);rw [g2];omega) hs.1 rfl rfl
 rw [if_neg k7] at hx
 by_cases k11:y.kind=11
 ·rw [if_pos k11] at hx
  have hc:=c11 k11
  simp only [bz,ce,or_false] at hx
  rcases hx with rfl|rfl
  ·exact LV (u1:=true) (u2:=true) (u3:=true) (u4:=true) (u5:=false) rfl hjd (by show 0≤Bi y∧Bi y<(if (9:Int)=0 then (ps.length:Int) else ((CD bs F).length:Int));rw [h2,if_neg (by decide)];omega) (by show 0≤AY bs j∧AY bs j<((CD bs F).length:Int);omega) hs.1 rfl rfl
  ·exact LV (u1:=true) (u2:=true) (u3:=true) (u4:=true) (u5:=false) rfl hjd (by show 0≤(j:Int)∧(j:Int)<(if (8:Int)=0 then (ps.length:Int) else ((CD bs F).length:Int));rw [if_neg (by decide)];exact hjd) (by show 0≤AY bs j+1∧AY bs j+1<((CD bs F).length:Int);omega) rfl rfl rfl
 rw [if_neg k11] at hx
 by_cases hl2:y.args.length=2
 ·rw [if_pos hl2] at hx
  obtain ⟨b,g1,g2⟩:=a1 (by omega)
  have g3:=args 1 b g1
  rw [hm] at g3
  simp only [jc] at hx
  subst hx
  have hk:y.kind=3∨y.kind=4∨y.kind=8∨y.kind=9:=by
   unfold Bc at har
   (repeat' split at har) <;> omega
  have hop:opM y.kind=3∨opM y.kind=4∨opM y.kind=8∨opM y.kind=9:=by rcases hk with h|h|h|h <;> rw [h] <;> decide
  have hus:CF (opM y.kind)=(true,true,true,true,false,true):=by rcases hop with h|h|h|h <;> rw [h] <;> rfl
  exact LV (u1:=true) (u2:=true) (u3:=true) (u4:=true) (u5:=false) hus hjd (by show 0≤Bi y∧Bi y<(if opM y.kind=0 then (ps.length:Int) else ((CD bs F).length:Int));rw [h2,if_neg (by omega)];omega) (by show 0≤Dk y∧Dk y<((CD bs F).length:Int);rw [g2];omega) hs.1 hs.2 rfl
 rw [if_neg hl2] at hx
 simp only [jc] at hx
 subst hx
 have hk:y.kind=5∨y.kind=10:=by
  clear hge h1 h2 h3 hs a0 a1 args c11 one
  unfold Bc at har
  (repeat' split at har) <;> omega
 have hop:opM y.kind=5∨opM y.kind=10:=by rcases hk with h|h <;> rw [h] <;> decide
 have hus:CF (opM y.kind)=(true,false,true,false,false,true):=by rcases hop with h|h <;> rw [h] <;> rfl
 exact LV (u1:=true) (u2:=false) (u3:=true) (u4:=false) (u5:=false) hus hjd (by show 0≤Bi y∧Bi y<(if opM y.kind=0 then (ps.length:Int) else ((CD bs F).length:Int));rw [h2,if_neg (by omega)];omega) rfl hs.1 rfl rfl
def Apd (he:AO ps bs os=0) (hsh:(Cr ps bs F).all Ais=true):Cu ps (CD bs F) (Cr ps bs F) os=0:=by
 have hsz:=Abl he
 unfold FW at hsz
 have hM:=Ld bs F
 have h2:=WY bs bs.length
 have hdl:=XU bs bs.length
 have hcl:=XV bs bs.length
 have hcd:=Ym (ps:=ps) (bs:=bs) (F:=F) (dlK bs bs.length).length
 rw [Yl] at hcd
 have hol:(Bn bs).length+(dlK bs bs.length).length≤bs.length:=Apc bs
 unfold Cu
 rw [if_neg (not_not_intro ⟨by omega,by omega,by omega,by omega⟩)]
 refine Nj fun z hz=>?_
 rcases List.mem_append.1 hz with h|h
 ·obtain ⟨p,hp,rfl⟩:=List.mem_map.1 h
  obtain ⟨i,hi⟩:=List.mem_iff_getElem?.1 hp
  have h1:=Nk he hi
  unfold Gj at h1
  by_cases h3 : -2147483648≤p.lo∧p.lo≤p.hi∧p.hi<2147483648∧0≤p.fr∧p.fr≤30
  ·unfold Mw
   rw [if_pos ⟨decide_eq_true (by omega),decide_eq_true (by omega),by omega,by omega,by omega⟩]
  ·rw [if_neg h3] at h1;cases h1
 rcases List.mem_append.1 h with h|h
 ·obtain ⟨x,hx,rfl⟩:=List.mem_map.1 h
  unfold Rr
  rw [if_pos (Tr hx)]
 rcases List.mem_append.1 h with h|h
 ·obtain ⟨x,hx,rfl⟩:=List.mem_map.1 h
  have hx0:=hx
  have hxs:=of_decide_eq_true (List.all_eq_true.1 hsh x hx)
  unfold Cr at hx
  rcases List.mem_append.1 hx with hx|hx
  ·rcases List.mem_append.1 hx with hx|hx
   ·obtain ⟨j,hj,hx⟩:=List.mem_flatMap.1 hx
    obtain ⟨i,hi⟩:=List.mem_iff_getElem?.1 hj
    obtain ⟨hjn,hk2⟩:=Ia hi
    refine AtL he hjn hk2 (List.all_eq_true.2 fun y hy=>List.all_eq_true.1 hsh y ?_) x hx
    unfold Cr
    exact mr _ (mr _ (List.mem_flatMap.2 ⟨j,hj,hy⟩))
   ·obtain ⟨j,hj,rfl⟩:=List.mem_map.1 hx
    obtain ⟨i,hi⟩:=List.mem_iff_getElem?.1 hj
    obtain ⟨hjn,hk2,hrk⟩:=Rh.1 hi
    have hrl:=OD hjn hk2
    obtain ⟨y,hy⟩:∃ y,bs[j]?=some y:=⟨_,gE hjn⟩
    have hac:=Co he hy
    rw [Cw hy] at hk2
    have hyl:y.args.length=1:=by have h:=hac.2.1;rw [hk2] at h;simp [Bc] at h;omega
    obtain ⟨a,ha⟩:∃ a,y.args[0]?=some a:=⟨_,gE (by omega)⟩
    have hr:=hac.2.2 a (gM ha)
    rw [show Cy ps.length bs.length y.kind=bs.length from if_neg (by omega)] at hr
    have hg:Bi (PQ bs j)=a:=by rw [CX hy];unfold Bi;rw [ha];rfl
    have hc:AY bs j=(bs.length:Int)+(LH (dlB bs) j:Int):=by unfold AY;rw [Cw hy,if_pos hk2]
    refine LV (u1:=true) (u2:=false) (u3:=true) (u4:=false) (u5:=false) rfl ?_ ?_ rfl (decide_eq_true ⟨hxs.1,hxs.2.1⟩) rfl rfl
    ·show 0≤AY bs j∧AY bs j<((CD bs F).length:Int)
     rw [hc]
     omega
    ·show 0≤Bi (PQ bs j)∧Bi (PQ bs j)<(if (2:Int)=0 then (ps.length:Int) else ((CD bs F).length:Int))
     rw [hg,if_neg (by decide)]
     omega
  ·obtain ⟨j,hj,rfl⟩:=List.mem_map.1 hx
   obtain ⟨i,hi⟩:=List.mem_iff_getElem?.1 hj
   obtain ⟨hjn,hk2,hrk⟩:=Rh.1 hi
   have hrl:=OD hjn hk2
   have hc:AY bs j=(bs.length:Int)+(LH (dlB bs) j:Int):=by unfold AY;rw [if_pos hk2]
   refine LV (u1:=true) (u2:=false) (u3:=true) (u4:=false) (u5:=false) rfl ?_ ?_ rfl rfl rfl rfl
   ·show 0≤(j:Int)∧(j:Int)<((CD bs F).length:Int)
    omega
   ·show 0≤AY bs j∧AY bs j<(if (2:Int)=0 then (ps.length:Int) else ((CD bs F).length:Int))
    rw [hc,if_neg (by decide)]
    omega
 ·obtain ⟨o,ho,rfl⟩:=List.mem_map.1 h
  have:=AvA he o ho
  unfold Rs
  rw [if_pos ⟨this.1,by omega⟩]
end
def Agu (h:HM ps bs F=0):(Cr ps bs F).all Ais=true:=by
 unfold HM at h
 by_cases h1:F.length=bs.length
 ·rw [if_neg (not_not_intro h1)] at h
  by_cases h2:F.all HJ=true
  ·rw [if_neg (not_not_intro h2)] at h
   by_cases h3:Ak ((List.range bs.length).map (LF bs F))=0
   ·rw [if_neg (not_not_intro h3)] at h
    by_cases h4:(Cr ps bs F).all Ais=true
    ·exact h4
    ·rw [if_neg h4] at h;cases h
   ·rw [if_pos h3] at h;exact absurd h h3
  ·rw [if_pos h2] at h;cases h
 ·rw [if_pos h1] at h;cases h
def Aat (t:Bool) {ps:List Prt} {is:List Int} {xs:List Ins} {os:List Int} (l1:ps.length≤1000000) (l2:is.length≤1000000) (l3:xs.length≤1000000) (l4:os.length≤1000000) (h0:Cu ps is xs os=0):CV prog An 119 [Yk t ps is xs os] [aE 0]:=fun w S vs hg hlt ha=>by
 obtain ⟨v,rfl,hv⟩:=BQ ha
 obtain ⟨ys,rfl,hl0⟩:=hv
 obtain ⟨v0,x1,rfl,q0,h⟩:=Ba.uncons hl0
 obtain ⟨v1,x2,rfl,q1,h⟩:=h.uncons
 obtain ⟨v2,x3,rfl,q2,h⟩:=h.uncons
 obtain ⟨v3,x4,rfl,q3,h⟩:=h.uncons
 have:=h.unnil
 subst this
 unfold Di at q0
 rw [Oq VP] at q0
 unfold AbZ at q2
 rw [Oq AdJ] at q2
 obtain ⟨A1,c1,rfl,_,_,_,k1⟩:=TV hlt q0
 obtain ⟨A2,c2,rfl,_,_,k2⟩:=VO hlt q1
 obtain ⟨A3,c3,rfl,_,_,_,k3⟩:=TV hlt q2
 obtain ⟨A4,c4,rfl,_,_,k4⟩:=VO hlt q3
 refine (Cd.Check_any A1 A2 A3 A4 ps is xs os c1 c2 c3 c4 _ w (aa _) k1 k2 k3 k4).mono fun e w' ⟨he,hb⟩=>?_
 rw [h0] at he
 exact ⟨_,he,Bo.val (Zq _),hb⟩
def Ape {P:Program} {G:World→Prop} {N:Nat} {x y:Code} {F:Frm} {Q:UU} (K:Frm→List Ob→Prop) (h:CW P G N x F H (TE (wkC N K) Q)) (k:∀ F' H',K F' H'→CW P G N y F' H' Q):CW P G N x F H (TE (fun F' H'=>CW P G N y F' H' Q) Q) :=
 Amc h fun e F H h3=>by
  cases e with
  | normal =>
   obtain ⟨F3,H3,k4,hK⟩:=h3
   exact Bj k4 (k _ _ hK)
  | _=>exact h3
def WZ (n:Int):CVF prog An 120 [aI n] [aB (Bh n)]:=fun w S vs hg hlt ha=>by
 obtain ⟨u,hu,h2⟩:=BQ ha
 subst hu
 cases h2
 refine (IB n w).mono fun r w' ⟨he,hw⟩=>?_
 subst hw
 exact ⟨_,he,Bo.val rfl,ab _ _⟩
def Cf (x:Int) {k:Int} (h1 : -62≤k) (h2:k≤30):CVF prog An 121 [aI x,aI k] [aI (scl x k)]:=fun w S vs hg hlt ha=>by
 obtain ⟨v,vs',rfl,q1,ha⟩:=ha.uncons
 obtain ⟨u,hu,q2⟩:=BQ ha
 subst hu
 cases q1
 cases q2
 refine (AbK x k w h1 h2).mono fun r w' ⟨he,hw⟩=>?_
 subst hw
 exact ⟨_,he,Bo.val rfl,ab _ _⟩
def He (x:Ins) (cs inn:List Int):Int :=
 if x.op=0 then scl (inn[x.a.toNat]?.getD 0) x.sa
 else if x.op=1 then x.imm
 else if x.op=2 then scl (cs[x.a.toNat]?.getD 0) x.sa
 else if x.op=3 then scl (cs[x.a.toNat]?.getD 0) x.sa+scl (cs[x.b.toNat]?.getD 0) x.sb
 else if x.op=4 then scl (cs[x.a.toNat]?.getD 0) x.sa - scl (cs[x.b.toNat]?.getD 0) x.sb
 else if x.op=5 then -scl (cs[x.a.toNat]?.getD 0) x.sa
 else if x.op=6 then scl (cs[x.a.toNat]?.getD 0*x.imm) x.sa
 else if x.op=7 then scl (cs[x.a.toNat]?.getD 0*cs[x.b.toNat]?.getD 0) x.sa
 else if x.op=8 then min (scl (cs[x.a.toNat]?.getD 0) x.sa) (scl (cs[x.b.toNat]?.getD 0) x.sb)
 else if x.op=9 then max (scl (cs[x.a.toNat]?.getD 0) x.sa) (scl (cs[x.b.toNat]?.getD 0) x.sb)
 else max (scl (cs[x.a.toNat]?.getD 0) x.sa) (-scl (cs[x.a.toNat]?.getD 0) x.sa)
section
variable {x:Ins} {cs inn:List Int} {w y:Int}
def AtM (h:x.op=0) (hw:inn[x.a.toNat]?=some w):He x cs inn=scl w x.sa:=by simp [He,h,hw]
def Aau (h:x.op=1):He x cs inn=x.imm:=by simp [He,h]
def UM (h:x.op=2) (hw:cs[x.a.toNat]?=some w):He x cs inn=scl w x.sa:=by simp [He,h,hw]
def Alm (h:x.op=3) (hw:cs[x.a.toNat]?=some w) (hy:cs[x.b.toNat]?=some y):He x cs inn=scl w x.sa+scl y x.sb:=by simp [He,h,hw,hy]
def Aln (h:x.op=4) (hw:cs[x.a.toNat]?=some w) (hy:cs[x.b.toNat]?=some y):He x cs inn=scl w x.sa - scl y x.sb:=by simp [He,h,hw,hy]
def Alo (h:x.op=5) (hw:cs[x.a.toNat]?=some w):He x cs inn = -scl w x.sa:=by simp [He,h,hw]
def Agv (h:x.op=6) (hw:cs[x.a.toNat]?=some w):He x cs inn=scl (w*x.imm) x.sa:=by simp [He,h,hw]
def Alp (h:x.op=7) (hw:cs[x.a.toNat]?=some w) (hy:cs[x.b.toNat]?=some y):He x cs inn=scl (w*y) x.sa:=by simp [He,h,hw,hy]
def Agw (h:x.op=8) (hw:cs[x.a.toNat]?=some w) (hy:cs[x.b.toNat]?=some y):He x cs inn=min (scl w x.sa) (scl y x.sb):=by simp [He,h,hw,hy]
def Agx (h:x.op=9) (hw:cs[x.a.toNat]?=some w) (hy:cs[x.b.toNat]?=some y):He x cs inn=max (scl w x.sa) (scl y x.sb):=by simp [He,h,hw,hy]
def Alq (h:x.op=10) (hw:cs[x.a.toNat]?=some w):He x cs inn=max (scl w x.sa) (-scl w x.sa):=by simp [He,h,hw]
end
def Ajy (n:Int):Int:=max (-2147483648) (min n 2147483647)
def Yw {n:Int} (h:Bh n=true):Ajy n=n:=by have:=Ff h;unfold Ajy;omega
def OT (n:Int):Bh (Ajy n)=true:=by unfold Bh Ajy;rw [decide_eq_true_eq];omega
def Dv (inn:List Int) (st:List Int × Bool) (x:Ins):List Int × Bool:=(st.1.set x.dst.toNat (Ajy (He x st.1 inn)),st.2 || !Bh (He x st.1 inn))
def GM (inn:List Int) (xs:List Ins) (cs:List Int):List Int × Bool:=xs.foldl (Dv inn) (cs,false)
def Agy (inn:List Int) (xs:List Ins) (x:Ins) (cs:List Int):GM inn (xs++[x]) cs=Dv inn (GM inn xs cs) x:=by simp [GM,fa]
def Agz {cs:List Int} {k:Nat} {x:Ins} (h:xs[k]?=some x):GM inn (xs.take (k+1)) cs=((GM inn (xs.take k) cs).1.set x.dst.toNat (Ajy (He x (GM inn (xs.take k) cs).1 inn)),(GM inn (xs.take k) cs).2 || !Bh (He x (GM inn (xs.take k) cs).1 inn)):=by
 rw [aq,h]
 exact Agy _ _ _ _
def UO (inn:List Int) (xs:List Ins) (cs:List Int):(GM inn xs cs).1.length=cs.length:=by
 unfold GM
 suffices h:∀ (l:List Ins) (st:List Int × Bool),(l.foldl (Dv inn) st).1.length=st.1.length from h xs (cs,false)
 intro l
 induction l with
 | nil=>exact fun _=>rfl
 | cons x l ih =>
  intro st
  rw [ki,ih]
  simp [Dv]
def Ts {cs:List Int} (h:∀ z∈cs,Bh z=true):∀ z∈(GM inn xs cs).1,-2147483648≤z∧z<2147483648:=by
 suffices hh:∀ (l:List Ins) (st:List Int × Bool),(∀ z∈st.1,Bh z=true)→∀ z∈(l.foldl (Dv inn) st).1,Bh z=true from fun z hz=>Ff (hh xs (cs,false) h z hz)
 intro l
 induction l with
 | nil=>exact fun _ h=>h
 | cons x l ih =>
  intro st hst
  refine ih _ fun z hz=>?_
  rcases iv hz with hz|rfl
  ·exact hst z hz
  ·exact OT _
def Mx (C os:List Int):List Int:=os.map fun o=>C[o.toNat]?.getD 0
def AbR {C:List Int} {k:Nat} {o w:Int} (h:os[k]?=some o) (hw:C[o.toNat]?=some w):Mx C (os.take (k+1))=Mx C (os.take k)++[w]:=by
 rw [aq,h]
 simp [Mx,hw]
def AgA (C os:List Int) (k:Nat):(Mx C (os.take k)).length≤k:=by simp [Mx];omega
def AgB {x y:Int} (x0 : -2147483648≤x) (x1:x<2147483648) (y0 : -2147483648≤y) (y1:y<2147483648) : -9223372036854775808≤x*y∧x*y≤9223372036854775807:=by
 have h:(x*y).natAbs≤2147483648*2147483648:=by
  rw [fq]
  exact ee (by omega) (by omega)
 omega
def FB {x k:Int} (x0 : -2147483648≤x) (x1:x<2147483648) (h1 : -62≤k) (h2:k≤30) : -2305843009213693952≤scl x k∧scl x k≤2305843009213693952:=by
 unfold scl
 split
 ·have:=SF (x:=x) (-k).toNat
  omega
 ·rw [show max (-4294967296) (min x 4294967296)=x by omega]
  have h:(x*2 ^ k.toNat).natAbs≤2147483648*2 ^ 30:=by
   rw [fq,fu]
   exact ee (by omega) (av (by decide) (by omega))
  omega
def UQ {is:List Int} (h:Cu ps is xs os=0):ps.length≤16∧is.length≤192∧xs.length≤256∧os.length≤16:=bw fun hn=>by
 unfold Cu at h
 rw [if_pos hn] at h
 cases h
def Rt {is:List Int} (h:Cu ps is xs os=0):∀ e∈ps.map Mw++(is.map Rr++(xs.map (Ins.err ps.length is.length)++os.map (Rs is.length))),e=0:=by
 have hl:=UQ h
 unfold Cu at h
 rw [if_neg (not_not_intro hl)] at h
 exact CC h
def AgC {is:List Int} {k:Nat} {o:Int} (h:Cu ps is xs os=0) (ho:os[k]?=some o):0≤o∧o<is.length:=by
 have:=Rt h (Rs is.length o) (by simp only [eo,jl];exact .inr (.inr (.inr ⟨o,gM ho,rfl⟩)))
 unfold Rs at this
 exact bw fun hn=>by rw [if_neg hn] at this;cases this
def AgD {is:List Int} {k:Nat} {x:Ins} (h:Cu ps is xs os=0) (hx:xs[k]?=some x) :
  (x.op=0∨x.op=1∨x.op=2∨x.op=3∨x.op=4∨x.op=5∨x.op=6∨x.op=7∨x.op=8∨x.op=9∨x.op=10)∧0≤x.dst∧x.dst<is.length ∧
  (x.op≠1→0≤x.a∧x.a<(if x.op=0 then (ps.length:Int) else is.length) ∧ -62≤x.sa∧x.sa≤30) ∧
  ((x.op=3∨x.op=4∨x.op=7∨x.op=8∨x.op=9)→0≤x.b∧x.b<is.length∧(x.op≠7 → -62≤x.sb∧x.sb≤30)) ∧
  ((x.op=1∨x.op=6) → -2147483648≤x.imm∧x.imm<2147483648):=by
 have h0:DP ps.length is.length x.op x.dst x.a x.b x.sa x.sb x.imm=0:=Rt h (Ins.err ps.length is.length x) (by simp only [eo,jl];exact .inr (.inr (.inl ⟨x,gM hx,rfl⟩)))
 have hu:(CF x.op).2.2.2.2.2=true:=by
  cases hb:(CF x.op).2.2.2.2.2 with
  | true=>rfl
  | false=>unfold DP at h0;rw [if_pos hb] at h0;cases h0
 have hop:x.op=0∨x.op=1∨x.op=2∨x.op=3∨x.op=4∨x.op=5∨x.op=6∨x.op=7∨x.op=8∨x.op=9∨x.op=10:=by
  unfold CF at hu
  (repeat' split at hu) <;> first|omega|(simp at hu)
 have sh:∀ n:Int,¬ (Gd n=false) → -62≤n∧n≤30:=fun n hn=>by
  have:Gd n=true:=by cases hb:Gd n with|true=>rfl|false=>exact absurd hb hn
  simpa [Gd] using this
 have si:∀ n:Int,¬ (Bh n=false) → -2147483648≤n∧n<2147483648:=fun n hn=>by
  have:Bh n=true:=by cases hb:Bh n with|true=>rfl|false=>exact absurd hb hn
  exact Ff this
 unfold DP at h0
 rw [if_neg (by rw [hu];decide)] at h0
 by_cases c1:¬ (0≤x.dst∧x.dst<is.length)
 ·rw [if_pos c1] at h0;cases h0
 rw [if_neg c1] at h0
 by_cases c2:(CF x.op).1=true∧¬ (0≤x.a∧x.a<(if x.op=0 then (ps.length:Int) else is.length))
 ·rw [if_pos c2] at h0;cases h0
 rw [if_neg c2] at h0
 by_cases c3:(CF x.op).2.1=true∧¬ (0≤x.b∧x.b<is.length)
 ·rw [if_pos c3] at h0;cases h0
 rw [if_neg c3] at h0
 by_cases c4:(CF x.op).2.2.1=true∧Gd x.sa=false
 ·rw [if_pos c4] at h0;cases h0
 rw [if_neg c4] at h0
 by_cases c5:(CF x.op).2.2.2.1=true∧Gd x.sb=false
 ·rw [if_pos c5] at h0;cases h0
 rw [if_neg c5] at h0
 by_cases c6:(CF x.op).2.2.2.2.1=true∧Bh x.imm=false
 ·rw [if_pos c6] at h0;cases h0
 have c1':=Classical.not_not.1 c1
 refine ⟨hop,c1'.1,c1'.2,fun h1=>?_,fun h1=>?_,fun h1=>?_⟩
 ·have ua:(CF x.op).1=true∧(CF x.op).2.2.1=true:=by rcases hop with h|h|h|h|h|h|h|h|h|h|h <;> first|exact absurd h h1|(rw [h];exact ⟨rfl,rfl⟩)
  have ha:0≤x.a∧x.a<(if x.op=0 then (ps.length:Int) else is.length):=bw fun hn=>c2 ⟨ua.1,hn⟩
  have hs:=sh x.sa fun hn=>c4 ⟨ua.2,hn⟩
  exact ⟨ha.1,ha.2,hs.1,hs.2⟩
 ·have ub:(CF x.op).2.1=true:=by rcases h1 with h|h|h|h|h <;> (rw [h];rfl)
  have hb:0≤x.b∧x.b<is.length:=bw fun hn=>c3 ⟨ub,hn⟩
  refine ⟨hb.1,hb.2,fun h7=>sh x.sb fun hn=>c5 ⟨?_,hn⟩⟩
  rcases h1 with h|h|h|h|h <;> first|exact absurd h h7|(rw [h];rfl)
 ·have ui:(CF x.op).2.2.2.2.1=true:=by rcases h1 with h|h <;> (rw [h];rfl)
  exact si x.imm fun hn=>c6 ⟨ui,hn⟩
def IC (k:p') (h:Hd9 p'→p:=by with_reducible first|(intro Z9;refine Tx 26 ?_;refine gO xEq <| gO xA ?_;exact Z9.o)|fail):p:=h ⟨k⟩
def LW (k:p') (h:Hd9 p'→p:=by with_reducible first|(intro Z9;refine Tx 28 ?_;refine gO xEq <| gO xA ?_;exact Z9.o)|fail):p:=h ⟨k⟩
def EG (h:p:=by first|exact xNt|exact xNg):p:=h
def Alr (k:p') (h:Hd9 p'→p:=by with_reducible first|(intro Z9;refine Tx 49 ?_;refine gO xM <| gO (xCl func120 (SH.cv)) <| gO EG ?_;exact Z9.o)|(intro Z9;refine Tx 52 ?_;refine gO xF <| gO xD <| gO xF <| gO xD <| gO xM <| gO (by exact FS (i:=x.dst.toNat) rfl rfl rfl rfl (by omega) Af (by omega) (by decide)) <| gZ (by first|exact OY rfl rfl rfl rfl Ar tl st|exact xS1 Ar|exact xSk Ar) ?_;exact Z9.o)|(intro Z9;refine Tx 53 ?_;refine gO xAd <| gO xM ?_;exact Z9.o)|fail):p:=h ⟨k⟩
def Als (h:p:=by
 refine ⟨_,_,BK 4 (hH:=by rw [hO2];rfl),_,?_,k+1,by omega,rfl,rfl,rfl⟩
 ·omega):p:=h
def Alt (h:p:=by
 refine ⟨_,_,BK 2,_,?_,k+1,by omega,rfl,rfl,rfl⟩
 ·omega):p:=h
def LZ (h:p:=by first|exact FS (i:=x.a.toNat) rfl rfl rfl rfl (by omega) Af (by omega) (by decide)|exact FS (i:=x.b.toNat) rfl rfl rfl rfl (by omega) Af (by omega) (by decide)):p:=h
def Alu (h:p:=by first|exact xIr Af (AG ho)|exact FS (i:=o.toNat) rfl rfl rfl rfl (by omega) Af (by omega) (by decide)):p:=h
def Alv (h:p:=by first|exact Pz rfl rfl rfl hm|exact Pz rfl rfl rfl (by omega)):p:=h
def Pj (h:p:=by first|exact xCl func121 (SA.cv)|exact xCl func121 (SB.cv)):p:=h
def Ma (h:p:=by first|exact xLi hw Ar|exact xLi hy Ar|exact xLd Ar):p:=h
def Tt (h:p:=by first|exact xLi hw Ar|exact xLd Ar):p:=h
def AtN (t u v:Bool) {ps:List Prt} {is:List Int} {xs:List Ins} {os cs inn:List Int} (hp:Cu ps is xs os=0) (hcl:cs.length=is.length) (hs:∀ z∈cs,Bh z=true) (hil:inn.length=ps.length) (hr:∀ (k:Nat) (p:Prt) (z:Int),ps[k]?=some p→inn[k]?=some z→p.lo≤z∧z≤p.hi) :
  CV prog An 48 [Yk t ps is xs os,.one (AU u cs),.one (AU v inn)] [.agg [AU false (GM inn xs cs).1,AU false (Mx (GM inn xs cs).1 os),.val (.bool (GM inn xs cs).2)],aE 0]:=by
 refine cvz func48 ntmps48 ?_
 obtain ⟨hp1,hi1,hx1,ho1⟩:=UQ hp
 have CK:=Aat t (lT hp1 (by decide)) (lT hi1 (by decide)) (lT hx1 (by decide)) (lT ho1 (by decide)) hp
 repeat' (with_reducible first|refine qq ?_|(refine Tx 0 ?_;refine gN xBo <| gN (xAl Om) <| gO xA ?_)|(refine Tx 1 ?_;refine gO xL <| gO (xCl func119 (CK)) <| gO xA ?_)|(refine Tx 2 ?_;refine gO xM <| gO (xNE Ai) ?_)|(refine Tx 4 ?_;refine gO xM <| gO xN <| gO xF <| gO xD <| gO xN <| gO xNe ?_)|(refine Tx 6 ?_;refine gO xM <| gO xN <| gO xM ?_))
 refine Bj (BK 2) (Av (fun n Fr H=>∃ k:Nat,k≤cs.length∧n=cs.length - k∧Fr=ofL [(1,vd (AU u cs)),(2,vd (AU v inn)),(3,vr 0),(6,vr 1),(33,vd (AU u cs)),(34,vi cs.length),(35,vi ((k:Nat)))]∧H=[.box 94 [.d (Di t ps),.d (AU t is),.d (AbZ t xs),.d (AU t os)],.box 99 [.d (.val (.slice none 0 0)),.d (.val (.slice none 0 0)),.d (.val (.bool false))]]) (n0:=cs.length) ⟨0,ad _,rfl,rfl,rfl⟩ ?_)
 rintro n Fr H ⟨k,hk,rfl,rfl,rfl⟩
 by_cases hlt:k<cs.length
 case pos =>
  obtain ⟨z,hz⟩:∃ z,cs[k]?=some z:=⟨_,gE hlt⟩
  have SH:=WZ z
  rw [hs z (gM hz)] at SH
  repeat' (with_reducible first|refine qq ?_|(refine Tx 7 ?_;refine gO xLt ?_)|(refine Tx 8 ?_;refine gO (xIr Af (AG hz)) <| gO xD <| gO xA ?_)|(refine Tx 9 ?_;refine gO xM <| gO (xCl func120 (SH.cv)) <| gO EG ?_)|(refine Tx 11 ?_;refine gO xAd <| gO xM ?_))
  exact Alt
 repeat' (with_reducible first|refine qq ?_|(refine Tx 7 ?_;refine gO xLt ?_)|(refine Tx 12 ?_;refine gO xM <| gO xN <| gO xF <| gO xD <| gO xN <| gO xNe ?_)|(refine Tx 14 ?_;refine gO xM <| gO xN <| gO xM ?_))
 refine Bj (BK 2) (Av (fun n Fr H=>∃ k:Nat,k≤inn.length∧n=inn.length - k∧Fr=ofL [(1,vd (AU u cs)),(2,vd (AU v inn)),(3,vr 0),(6,vr 1),(53,vd (AU v inn)),(54,vi inn.length),(55,vi ((k:Nat)))]∧H=[.box 94 [.d (Di t ps),.d (AU t is),.d (AbZ t xs),.d (AU t os)],.box 99 [.d (.val (.slice none 0 0)),.d (.val (.slice none 0 0)),.d (.val (.bool false))]]) (n0:=inn.length) ⟨0,ad _,rfl,rfl,rfl⟩ ?_)
 clear hk
 rintro n Fr H ⟨k,hk,rfl,rfl,rfl⟩
 by_cases hlt:k<inn.length
 case pos =>
  obtain ⟨z,hz⟩:∃ z,inn[k]?=some z:=⟨_,gE hlt⟩
  obtain ⟨p,hp0⟩:∃ p,ps[k]?=some p:=⟨_,gE (by omega)⟩
  obtain ⟨hz1,hz2⟩:=hr k p z hp0 hz
  repeat' (with_reducible first|refine qq ?_|(refine Tx 15 ?_;refine gO xLt ?_)|(refine Tx 16 ?_;refine gO xM <| gO (xIr Af (AG hz)) <| gO xD <| gO xA <| gO xA ?_)|(refine Tx 17 ?_;refine gO xM <| gO xF <| gO xD <| gO xM <| gO (xIr BI (FX hp0)) <| gO xF <| gO xD <| gO xLt <| gO xM ?_;(first|iterate 8 refine Jd ?_|(refine Jy xM1 ?_;refine Jy (xFa QB DY) ?_;refine Jy (xLd DY) ?_;refine Jy xM1 ?_;refine Jy (xIr BI (FX hp0)) ?_;refine Jy (xFa IM Ar) ?_;refine Jy (xLd Ar) ?_;refine Jy xGt ?_));refine gO xPk ?_)|(refine Tx 19 ?_;refine gO xAd <| gO xM ?_))
  exact Alt
 clear hk
 have hc1:cs.length≤1000000:=by omega
 repeat' (with_reducible first|refine qq ?_|(refine Tx 15 ?_;refine gO xLt ?_)|(refine Tx 20 ?_;refine gN (by first|exact EW (ps:=[]) (cs:=[]) rfl Af BV (by decide) (by decide) rfl rfl rfl (by decide)|exact Fq rfl rfl Af BV (by decide) (by decide) (by decide) rfl rfl rfl) <| gO xM <| gT (by exact AtK rfl rfl rfl rfl Af BV (by omega) (by decide) (by decide) (by simp) (cI_D cs).symm (bf _)) <| gO (by exact Az rfl AaP rfl rfl) <| gN (xAl Om) <| gZ (xSk Ek) ?_)|(refine Tx 21 ?_;refine gO xF <| gO xD <| gO xN <| gO xM ?_))
 refine Bj (BK 4) (Av (fun n Fr H=>∃ k:Nat,k≤xs.length∧n=xs.length - k∧Fr=ofL [(2,vd (AU v inn)),(3,vr 0),(6,vr 1),(13,vr 3),(86,vd (AbZ t xs)),(87,vi xs.length),(88,vi ((k:Nat)))]∧H=[.box 94 [.d (Di t ps),.d (AU t is),.d (AbZ t xs),.d (AU t os)],.box 99 [.d (.val (.slice none 0 0)),.d (.val (.slice none 0 0)),.d (.val (.bool false))],.row 3 1 cs.length (cI (GM inn (xs.take (k)) cs).1),.box 99 [.own 2 cs.length,.d (.val (.slice none 0 0)),.d (.val (.bool (GM inn (xs.take (k)) cs).2))]]) (n0:=xs.length) ⟨0,ad _,rfl,rfl,rfl⟩ ?_)
 rintro n Fr H ⟨k,hk,rfl,rfl,rfl⟩
 by_cases hlt:k<xs.length
 case pos =>
  obtain ⟨x,hx⟩:∃ x,xs[k]?=some x:=⟨_,gE hlt⟩
  obtain ⟨hop,hd0,hd1,hA,hB,hI⟩:=AgD hp hx
  have hst:=Agz (inn:=inn) (cs:=cs) hx
  have hCl:(GM inn (xs.take (k)) cs).1.length=cs.length:=UO _ _ _
  have hCs:=Ts hs (inn:=inn) (xs:=xs.take k)
  generalize hC:(GM inn (xs.take (k)) cs).1=Z at hst hCl hCs ⊢
  generalize hO:(GM inn (xs.take (k)) cs).2=O at hst ⊢
  repeat' (with_reducible first|refine qq ?_|(refine Tx 22 ?_;refine gO xLt ?_)|(refine Tx 23 ?_;refine gO (xIr Bt (AjZ hx)) <| gO xL <| gN (xAl Cn) <| gZ (xSk FP) ?_)|(refine Tx 24 ?_;refine gO xA ?_))
  with_reducible refine Tx 25 ?_
  with_reducible refine gO xF ?_
  with_reducible refine gO xD ?_
  with_reducible refine Je ?_
  refine qb ?_
  refine Ape (fun F' H'=>∃ V:Int,He x Z inn=V∧F'=ofL [(2,vd (AU v inn)),(3,vr 0),(6,vr 1),(13,vr 3),(15,vr 4),(16,vi V),(86,vd (AbZ t xs)),(87,vi xs.length),(88,vi ((k:Nat)))]∧H'=[.box 94 [.d (Di t ps),.d (AU t is),.d (AbZ t xs),.d (AU t os)],.box 99 [.d (.val (.slice none 0 0)),.d (.val (.slice none 0 0)),.d (.val (.bool false))],.row 3 1 cs.length (cI Z),.box 99 [.own 2 cs.length,.d (.val (.slice none 0 0)),.d (.val (.bool O))],.box 169 ((UV x).map C.d)]) ?_ ?_
  ·
   rcases hop with h|h|h|h|h|h|h|h|h|h|h
   ·
    obtain ⟨ha0,ha1,hs0,hs1⟩:=hA (by omega)
    rw [if_pos h] at ha1
    obtain ⟨w,hw⟩:∃ w,inn[x.a.toNat]?=some w:=⟨_,gE (by omega)⟩
    have SA:=Cf w hs0 hs1
    repeat' (with_reducible first|refine qq ?_|refine IC ?_|(refine BU (id:=27) AN (by kernel_rfl) ?_;refine gP xM <| gP xF <| gP xD <| gP (xIr Af (AG hw)) <| gP xD <| gP xF <| gP xD <| gP (xCl func121 (SA.cv)) <| gP xA ?_;refine Ke ?_))
    refine ⟨_,_,BK 5,scl w x.sa,AtM h hw,rfl,rfl⟩
   ·
    repeat' (with_reducible first|refine qq ?_|refine IC ?_|refine LW ?_|(refine Tx 29 ?_;refine gO xF <| gO xD <| gO xA ?_))
    refine ⟨_,_,BK 5,x.imm,Aau h,rfl,rfl⟩
   ·
    obtain ⟨ha0,ha1,hs0,hs1⟩:=hA (by omega)
    rw [if_neg (by omega)] at ha1
    obtain ⟨w,hw⟩:∃ w,Z[x.a.toNat]?=some w:=⟨_,gE (by omega)⟩
    obtain ⟨w0,w1⟩:=hCs w (gM hw)
    have SA:=Cf w hs0 hs1
    have b1:=FB w0 w1 hs0 hs1
    repeat' (with_reducible first|refine qq ?_|refine IC ?_|refine LW ?_|(refine Tx 30 ?_;refine gO xEq <| gO xA ?_)|(refine BU (id:=31) AN (by kernel_rfl) ?_;refine gP xF <| gP xD <| gP xF <| gP xD <| gP (by exact FS (i:=x.a.toNat) rfl rfl rfl rfl (by omega) Af (by omega) (by decide)) <| gP Tt <| gP xF <| gP xD <| gP (xCl func121 (SA.cv)) <| gP xA ?_;refine Ke ?_))
    refine ⟨_,_,BK 5,(scl w x.sa),UM h hw,rfl,rfl⟩
   ·
    obtain ⟨ha0,ha1,hs0,hs1⟩:=hA (by omega)
    rw [if_neg (by omega)] at ha1
    obtain ⟨w,hw⟩:∃ w,Z[x.a.toNat]?=some w:=⟨_,gE (by omega)⟩
    obtain ⟨w0,w1⟩:=hCs w (gM hw)
    obtain ⟨hb0,hb1,hbs⟩:=hB (by omega)
    obtain ⟨y,hy⟩:∃ y,Z[x.b.toNat]?=some y:=⟨_,gE (by omega)⟩
    obtain ⟨y0,y1⟩:=hCs y (gM hy)
    have SA:=Cf w hs0 hs1
    have b1:=FB w0 w1 hs0 hs1
    obtain ⟨hb2,hb3⟩:=hbs (by omega)
    have SB:=Cf y hb2 hb3
    have b2:=FB y0 y1 hb2 hb3
    repeat' (with_reducible first|refine qq ?_|refine IC ?_|refine LW ?_|(refine Tx 30 ?_;refine gO xEq <| gO xA ?_)|(refine Tx 32 ?_;refine gO xEq <| gO xA ?_)|(refine BU (id:=33) AN (by kernel_rfl) ?_;refine gP xF <| gP xD <| gP xF <| gP xD <| gP LZ <| gP Ma <| gP xF <| gP xD <| gP Pj <| gP xF <| gP xD <| gP xF <| gP xD <| gP LZ <| gP Ma <| gP xF <| gP xD <| gP Pj <| gP xAd <| gP xA ?_;refine Ke ?_))
    refine ⟨_,_,BK 5,(scl w x.sa+scl y x.sb),Alm h hw hy,rfl,rfl⟩
   ·
    obtain ⟨ha0,ha1,hs0,hs1⟩:=hA (by omega)
    rw [if_neg (by omega)] at ha1
    obtain ⟨w,hw⟩:∃ w,Z[x.a.toNat]?=some w:=⟨_,gE (by omega)⟩
    obtain ⟨w0,w1⟩:=hCs w (gM hw)
    obtain ⟨hb0,hb1,hbs⟩:=hB (by omega)
    obtain ⟨y,hy⟩:∃ y,Z[x.b.toNat]?=some y:=⟨_,gE (by omega)⟩
    obtain ⟨y0,y1⟩:=hCs y (gM hy)
    have SA:=Cf w hs0 hs1
    have b1:=FB w0 w1 hs0 hs1
    obtain ⟨hb2,hb3⟩:=hbs (by omega)
    have SB:=Cf y hb2 hb3
    have b2:=FB y0 y1 hb2 hb3
    repeat' (with_reducible first|refine qq ?_|refine IC ?_|refine LW ?_|(refine Tx 30 ?_;refine gO xEq <| gO xA ?_)|(refine Tx 32 ?_;refine gO xEq <| gO xA ?_)|(refine Tx 34 ?_;refine gO xEq <| gO xA ?_)|(refine BU (id:=35) AN (by kernel_rfl) ?_;refine gP xF <| gP xD <| gP xF <| gP xD <| gP LZ <| gP Ma <| gP xF <| gP xD <| gP Pj <| gP xF <| gP xD <| gP xF <| gP xD <| gP LZ <| gP Ma <| gP xF <| gP xD <| gP Pj <| gP xSb <| gP xA ?_;refine Ke ?_))
    refine ⟨_,_,BK 5,(scl w x.sa - scl y x.sb),Aln h hw hy,rfl,rfl⟩
   ·
    obtain ⟨ha0,ha1,hs0,hs1⟩:=hA (by omega)
    rw [if_neg (by omega)] at ha1
    obtain ⟨w,hw⟩:∃ w,Z[x.a.toNat]?=some w:=⟨_,gE (by omega)⟩
    obtain ⟨w0,w1⟩:=hCs w (gM hw)
    have SA:=Cf w hs0 hs1
    have b1:=FB w0 w1 hs0 hs1
    repeat' (with_reducible first|refine qq ?_|refine IC ?_|refine LW ?_|(refine Tx 30 ?_;refine gO xEq <| gO xA ?_)|(refine Tx 32 ?_;refine gO xEq <| gO xA ?_)|(refine Tx 34 ?_;refine gO xEq <| gO xA ?_)|(refine Tx 36 ?_;refine gO xEq <| gO xA ?_)|(refine BU (id:=37) AN (by kernel_rfl) ?_;refine gP xF <| gP xD <| gP xF <| gP xD <| gP (by exact FS (i:=x.a.toNat) rfl rfl rfl rfl (by omega) Af (by omega) (by decide)) <| gP Tt <| gP xF <| gP xD <| gP (xCl func121 (SA.cv)) <| gP EG <| gP xA ?_;refine Ke ?_))
    refine ⟨_,_,BK 5,(-scl w x.sa),Alo h hw,rfl,rfl⟩
   ·
    obtain ⟨ha0,ha1,hs0,hs1⟩:=hA (by omega)
    rw [if_neg (by omega)] at ha1
    obtain ⟨w,hw⟩:∃ w,Z[x.a.toNat]?=some w:=⟨_,gE (by omega)⟩
    obtain ⟨w0,w1⟩:=hCs w (gM hw)
    obtain ⟨i0,i1⟩:=hI (.inr h)
    have hm:=AgB w0 w1 i0 i1
    have SA:=Cf (w*x.imm) hs0 hs1
    repeat' (with_reducible first|refine qq ?_|refine IC ?_|refine LW ?_|(refine Tx 30 ?_;refine gO xEq <| gO xA ?_)|(refine Tx 32 ?_;refine gO xEq <| gO xA ?_)|(refine Tx 34 ?_;refine gO xEq <| gO xA ?_)|(refine Tx 36 ?_;refine gO xEq <| gO xA ?_)|(refine Tx 38 ?_;refine gO xEq <| gO xA ?_)|(refine Tx 41 ?_;refine gO xEq <| gO xA ?_)|(refine BU (id:=42) AN (by kernel_rfl) ?_;refine gP xF <| gP xD <| gP xF <| gP xD <| gP (by exact FS (i:=x.a.toNat) rfl rfl rfl rfl (by omega) Af (by omega) (by decide)) <| gP Tt <| gP xF <| gP xD <| gP Alv <| gP xF <| gP xD <| gP (xCl func121 (SA.cv)) <| gP xA ?_;refine Ke ?_))
    refine ⟨_,_,BK 5,scl (w*x.imm) x.sa,Agv h hw,rfl,rfl⟩
   ·
    obtain ⟨ha0,ha1,hs0,hs1⟩:=hA (by omega)
    rw [if_neg (by omega)] at ha1
    obtain ⟨w,hw⟩:∃ w,Z[x.a.toNat]?=some w:=⟨_,gE (by omega)⟩
    obtain ⟨w0,w1⟩:=hCs w (gM hw)
    obtain ⟨hb0,hb1,hbs⟩:=hB (by omega)
    obtain ⟨y,hy⟩:∃ y,Z[x.b.toNat]?=some y:=⟨_,gE (by omega)⟩
    obtain ⟨y0,y1⟩:=hCs y (gM hy)
    have hm:=AgB w0 w1 y0 y1
    have SA:=Cf (w*y) hs0 hs1
    repeat' (with_reducible first|refine qq ?_|refine IC ?_|refine LW ?_|(refine Tx 30 ?_;refine gO xEq <| gO xA ?_)|(refine Tx 32 ?_;refine gO xEq <| gO xA ?_)|(refine Tx 34 ?_;refine gO xEq <| gO xA ?_)|(refine Tx 36 ?_;refine gO xEq <| gO xA ?_)|(refine Tx 38 ?_;refine gO xEq <| gO xA ?_)|(refine Tx 41 ?_;refine gO xEq <| gO xA ?_)|(refine Tx 43 ?_;refine gO xEq <| gO xA ?_)|(refine BU (id:=44) AN (by kernel_rfl) ?_;refine gP xF <| gP xD <| gP xF <| gP xD <| gP LZ <| gP Ma <| gP xF <| gP xD <| gP xF <| gP xD <| gP LZ <| gP Ma <| gP Alv <| gP xF <| gP xD <| gP (xCl func121 (SA.cv)) <| gP xA ?_;refine Ke ?_))
    refine ⟨_,_,BK 5,scl (w*y) x.sa,Alp h hw hy,rfl,rfl⟩
   ·
    obtain ⟨ha0,ha1,hs0,hs1⟩:=hA (by omega)
    rw [if_neg (by omega)] at ha1
    obtain ⟨w,hw⟩:∃ w,Z[x.a.toNat]?=some w:=⟨_,gE (by omega)⟩
    obtain ⟨w0,w1⟩:=hCs w (gM hw)
    obtain ⟨hb0,hb1,hbs⟩:=hB (by omega)
    obtain ⟨y,hy⟩:∃ y,Z[x.b.toNat]?=some y:=⟨_,gE (by omega)⟩
    obtain ⟨y0,y1⟩:=hCs y (gM hy)
    have SA:=Cf w hs0 hs1
    have b1:=FB w0 w1 hs0 hs1
    obtain ⟨hb2,hb3⟩:=hbs (by omega)
    have SB:=Cf y hb2 hb3
    have b2:=FB y0 y1 hb2 hb3
    repeat' (with_reducible first|refine qq ?_|refine IC ?_|refine LW ?_|(refine Tx 30 ?_;refine gO xEq <| gO xA ?_)|(refine Tx 32 ?_;refine gO xEq <| gO xA ?_)|(refine Tx 34 ?_;refine gO xEq <| gO xA ?_)|(refine Tx 36 ?_;refine gO xEq <| gO xA ?_)|(refine Tx 38 ?_;refine gO xEq <| gO xA ?_)|(refine Tx 41 ?_;refine gO xEq <| gO xA ?_)|(refine Tx 43 ?_;refine gO xEq <| gO xA ?_)|(refine Tx 45 ?_;refine gO xEq <| gO xA ?_)|(refine BU (id:=46) AN (by kernel_rfl) ?_;refine gP xF <| gP xD <| gP xF <| gP xD <| gP LZ <| gP Ma <| gP xF <| gP xD <| gP Pj <| gP xF <| gP xD <| gP xF <| gP xD <| gP LZ <| gP Ma <| gP xF <| gP xD <| gP Pj <| gP (by exact Ada rfl rfl rfl) <| gP xA ?_;refine Ke ?_))
    refine ⟨_,_,BK 5,(min (scl w x.sa) (scl y x.sb)),Agw h hw hy,rfl,rfl⟩
   ·
    obtain ⟨ha0,ha1,hs0,hs1⟩:=hA (by omega)
    rw [if_neg (by omega)] at ha1
    obtain ⟨w,hw⟩:∃ w,Z[x.a.toNat]?=some w:=⟨_,gE (by omega)⟩
    obtain ⟨w0,w1⟩:=hCs w (gM hw)
    obtain ⟨hb0,hb1,hbs⟩:=hB (by omega)
    obtain ⟨y,hy⟩:∃ y,Z[x.b.toNat]?=some y:=⟨_,gE (by omega)⟩
    obtain ⟨y0,y1⟩:=hCs y (gM hy)
    have SA:=Cf w hs0 hs1
    have b1:=FB w0 w1 hs0 hs1
    obtain ⟨hb2,hb3⟩:=hbs (by omega)
    have SB:=Cf y hb2 hb3
    have b2:=FB y0 y1 hb2 hb3
    repeat' (with_reducible first|refine qq ?_|refine IC ?_|refine LW ?_|(refine Tx 30 ?_;refine gO xEq <| gO xA ?_)|(refine Tx 32 ?_;refine gO xEq <| gO xA ?_)|(refine Tx 34 ?_;refine gO xEq <| gO xA ?_)|(refine Tx 36 ?_;refine gO xEq <| gO xA ?_)|(refine Tx 38 ?_;refine gO xEq <| gO xA ?_)|(refine Tx 41 ?_;refine gO xEq <| gO xA ?_)|(refine Tx 43 ?_;refine gO xEq <| gO xA ?_)|(refine Tx 45 ?_;refine gO xEq <| gO xA ?_)|(refine Tx 47 ?_;refine gO xEq <| gO xA ?_)|(refine BU (id:=48) AN (by kernel_rfl) ?_;refine gP xF <| gP xD <| gP xF <| gP xD <| gP LZ <| gP Ma <| gP xF <| gP xD <| gP Pj <| gP xF <| gP xD <| gP xF <| gP xD <| gP LZ <| gP Ma <| gP xF <| gP xD <| gP Pj <| gP (by exact Gf rfl rfl rfl) <| gP xA ?_;refine Ke ?_))
    refine ⟨_,_,BK 5,(max (scl w x.sa) (scl y x.sb)),Agx h hw hy,rfl,rfl⟩
   ·
    obtain ⟨ha0,ha1,hs0,hs1⟩:=hA (by omega)
    rw [if_neg (by omega)] at ha1
    obtain ⟨w,hw⟩:∃ w,Z[x.a.toNat]?=some w:=⟨_,gE (by omega)⟩
    obtain ⟨w0,w1⟩:=hCs w (gM hw)
    have SA:=Cf w hs0 hs1
    have b1:=FB w0 w1 hs0 hs1
    repeat' (with_reducible first|refine qq ?_|refine IC ?_|refine LW ?_|(refine Tx 30 ?_;refine gO xEq <| gO xA ?_)|(refine Tx 32 ?_;refine gO xEq <| gO xA ?_)|(refine Tx 34 ?_;refine gO xEq <| gO xA ?_)|(refine Tx 36 ?_;refine gO xEq <| gO xA ?_)|(refine Tx 38 ?_;refine gO xEq <| gO xA ?_)|(refine BU (id:=39) AN (by kernel_rfl) ?_;refine gP xF <| gP xD <| gP xF <| gP xD <| gP (by exact FS (i:=x.a.toNat) rfl rfl rfl rfl (by omega) Af (by omega) (by decide)) <| gP Tt <| gP xF <| gP xD <| gP (xCl func121 (SA.cv)) <| gP xA ?_;refine Ke ?_)|(refine Tx 40 ?_;refine gO xM <| gO xM <| gO EG <| gO (by exact Gf rfl rfl rfl) <| gO xA ?_))
    refine ⟨_,_,BK 5,(max (scl w x.sa) (-scl w x.sa)),Alq h hw,rfl,rfl⟩
  ·
   rintro F' H' ⟨V,hV,rfl,rfl⟩
   have SH:=WZ V
   rw [hV] at hst
   have tl:x.dst.toNat<Z.length:=by omega
   by_cases hsv:Bh V=true
   case pos =>
    rw [hsv] at SH
    have st:Z.set x.dst.toNat V=(GM inn (xs.take (k+1)) cs).1:=by rw [hst,Yw hsv]
    have hO2:(GM inn (xs.take (k+1)) cs).2=O:=by rw [hst,hsv];simp
    repeat' (with_reducible first|refine qq ?_|refine Alr ?_)
    exact Als
   case neg =>
    rw [bc] at hsv
    rw [hsv] at SH
    have st:Z.set x.dst.toNat (max (-2147483648) (min V 2147483647))=(GM inn (xs.take (k+1)) cs).1:=by rw [hst,show Ajy V=max (-2147483648) (min V 2147483647) from rfl]
    have hO2:(GM inn (xs.take (k+1)) cs).2=true:=by rw [hst,hsv];simp
    repeat' (with_reducible first|refine qq ?_|refine Alr ?_|(refine Tx 50 ?_;refine gO xM <| gO (by exact Ada rfl rfl rfl) <| gO (by exact Gf rfl rfl rfl) <| gO xA ?_)|(refine Tx 51 ?_;refine gO xF <| gZ (by first|exact xS1 DX|exact xSk DX) ?_))
    exact Als
 obtain rfl:k=xs.length:=by omega
 clear hlt hk
 rw [au]
 have hCl:(GM inn xs cs).1.length=cs.length:=UO _ _ _
 generalize hC:(GM inn xs cs).1=Z at hCl ⊢
 generalize hO:(GM inn xs cs).2=O
 repeat' (with_reducible first|refine qq ?_|(refine Tx 22 ?_;refine gO xLt ?_)|(refine Tx 54 ?_;refine gO xF <| gO xD <| gO xN <| gO xM ?_))
 refine Bj (Qx 3 1 3 1 rfl rfl) ?_
 refine Bj (BK 5) (Av (fun n Fr H=>∃ k:Nat,k≤os.length∧n=os.length - k∧Fr=ofL [(3,vr 0),(6,vr 1),(13,vr 3),(277,vd (AU t os)),(278,vi os.length),(279,vi ((k:Nat)))]∧H=[.box 94 [.d (Di t ps),.d (AU t is),.d (AbZ t xs),.d (AU t os)],.box 99 [.d (.val (.slice none 0 0)),.d (.val (.slice none 0 0)),.d (.val (.bool false))],.row 3 1 cs.length (cI Z),.box 99 [.own 2 cs.length,.own 4 (Mx Z (os.take (k))).length,.d (.val (.bool O))],.row 3 1 (Mx Z (os.take (k))).length (cI (Mx Z (os.take (k))))]) (n0:=os.length) ⟨0,ad _,rfl,rfl,rfl⟩ ?_)
 rintro n Fr H ⟨k,hk,rfl,rfl,rfl⟩
 by_cases hlt:k<os.length
 case pos =>
  obtain ⟨o,ho⟩:∃ o,os[k]?=some o:=⟨_,gE hlt⟩
  obtain ⟨o0,o2⟩:=AgC hp ho
  obtain ⟨w,hw⟩:∃ w,Z[o.toNat]?=some w:=⟨_,gE (by omega)⟩
  have hap:(Mx Z (os.take (k)))++[w]=(Mx Z (os.take (k+1))):=(AbR ho hw).symm
  have hap2:(Mx Z (os.take (k))).length+1=(Mx Z (os.take (k+1))).length:=by rw [←hap];simp
  have hol:(Mx Z (os.take (k))).length≤k:=AgA _ _ _
  repeat' (with_reducible first|refine qq ?_|(refine Tx 55 ?_;refine gO xLt ?_)|(refine Tx 56 ?_;refine gO Alu <| gO Tt <| gO xA ?_)|(refine AE (id:=57) 8 AN (by kernel_rfl) ?_;dsimp only [List.take,List.drop];refine gP xF <| gP xD <| gP xF <| gP xD <| gP xM <| gP Alu <| gP Tt <| gQ (by exact Bp rfl Af BV rfl rfl (by decide) (by decide)) ?_;refine Ke ?_;refine gT (by exact OZ rfl rfl rfl rfl rfl rfl Af BV (by omega) (by decide) hap hap2) <| gO xF <| gZ (by first|exact xS1 Bm|exact xSk Bm) ?_)|(refine Tx 58 ?_;refine gO xAd <| gO xM ?_))
  refine ⟨_,_,BK 5,_,?_,k+1,by omega,rfl,rfl,rfl⟩
  ·omega
 obtain rfl:k=os.length:=by omega
 clear hlt hk
 rw [au]
 repeat' (with_reducible first|refine qq ?_|(refine Tx 55 ?_;refine gO xLt ?_)|(refine Tx 59 ?_;refine gO xL <| gZ (xSk Ek) <| gO xA ?_))
 exact AH rfl (.cons_ (VQ rfl rfl Ek rfl rfl (AZ rfl rfl (Yn rfl rfl hCl.symm rfl) (AZ rfl rfl (Yn rfl rfl rfl rfl) (AZ rfl rfl (Bs rfl (fun _=>.val _)) (BJ rfl rfl))))) (.cons_ (Gk rfl rfl) .nil_))
def Yx {c:Int}:(∀ x∈Fv ps bs F j c,x.dst=(j:Int))∧∃ x,x∈Fv ps bs F j c∧x.dst=(j:Int):=by
 unfold Fv
 dsimp only
 repeat' split
 all_goals simp
def My:j∈AI bs ↔ j<bs.length∧AK bs j=2:=by
 rw [HH]
 unfold dlK dlB
 simp
def Lf {t:Nat} (h:(AI bs)[t]?=some j):AY bs j=(bs.length:Int)+(t:Int):=by
 rw [HH] at h
 obtain ⟨_,h2,h3⟩:=Rh.1 h
 unfold AY
 rw [if_pos h2,h3]
def Ajz {x:Ins} (h:x∈Cr ps bs F):0≤x.dst∧x.dst<(bs.length:Int)+((AI bs).length:Int):=by
 unfold Cr at h
 rcases List.mem_append.1 h with h|h
 ·rcases List.mem_append.1 h with h|h
  ·obtain ⟨j,hj,hx⟩:=List.mem_flatMap.1 h
   have h1:=(GR bs.length (Gi.nil bs)).mem j hj
   rw [Yx.1 x hx]
   omega
  ·obtain ⟨j,hj,rfl⟩:=List.mem_map.1 h
   obtain ⟨t,ht⟩:=di hj
   have hlt:=(gS.1 ht).1
   show 0≤AY bs j∧AY bs j<_
   rw [Lf ht]
   omega
 ·obtain ⟨j,hj,rfl⟩:=List.mem_map.1 h
  have:=(My.1 hj).1
  show 0≤(j:Int)∧(j:Int)<_
  omega
def Ge {inn:List Int} {j:Nat}:∀ {xs:List Ins} {st:List Int × Bool},(∀ x∈xs,x.dst.toNat≠j)→(xs.foldl (Dv inn) st).1[j]?=st.1[j]?
 | [],_,_=>rfl
 | x::xs,st,h=>by
  rw [ki,Ge fun y hy=>h y (ek _ hy)]
  show (st.1.set x.dst.toNat _)[j]?=_
  rw [bk,if_neg (h x (fd ..))]
def NN (h:Bh z=true):scl z 0=z:=by
 have:=Ff h
 unfold scl
 rw [if_neg (by decide)]
 show _*1=z
 rw [iy]
 omega
def Xa {bs:List Bk} {inn:List Int} {st:List Int × Bool} (hlen:bs.length+(AI bs).length≤st.1.length) (hs:∀ z∈st.1,Bh z=true):∀ t,t≤(AI bs).length →
  (((AI bs).take t).map (mv2 bs)).foldl (Dv inn) st=((((AI bs).take t).map (mv2 bs)).foldl (Dv inn) st) ∧
  (∀ k,k<(AI bs).length→((((AI bs).take t).map (mv2 bs)).foldl (Dv inn) st).1[bs.length+k]?=st.1[bs.length+k]?) ∧
  ((((AI bs).take t).map (mv2 bs)).foldl (Dv inn) st).1.length=st.1.length ∧
  (∀ k j,k<t→(AI bs)[k]?=some j→((((AI bs).take t).map (mv2 bs)).foldl (Dv inn) st).1[j]?=st.1[bs.length+k]?)
 | 0,_=>⟨rfl,fun _ _=>rfl,rfl,fun _ _ h=>absurd h (fb _)⟩
 | t+1,ht=>by
  obtain ⟨_,ih1,ih2,ih3⟩:=Xa (inn:=inn) hlen hs t (by omega)
  obtain ⟨d,hd⟩:∃ d,(AI bs)[t]?=some d:=⟨_,gE (by omega)⟩
  have hdn:=(My.1 (gM hd)).1
  have hc:=Lf hd
  obtain ⟨z,hz⟩:∃ z,st.1[bs.length+t]?=some z:=⟨_,gE (by omega)⟩
  have hzs:=hs z (gM hz)
  have e:(((AI bs).take (t+1)).map (mv2 bs)).foldl (Dv inn) st=Dv inn ((((AI bs).take t).map (mv2 bs)).foldl (Dv inn) st) (mv2 bs d):=by
   rw [aq,hd]
   simp [fa]
  generalize (((AI bs).take t).map (mv2 bs)).foldl (Dv inn) st=A at ih1 ih2 ih3 e
  have hv:He (mv2 bs d) A.1 inn=z:=by
   rw [UM (w:=z) rfl (by show A.1[(AY bs d).toNat]?=_;rw [hc,show ((bs.length:Int)+(t:Int)).toNat=bs.length+t by omega,ih1 t (by omega)];exact hz)]
   exact NN hzs
  have hA:(Dv inn A (mv2 bs d)).1=A.1.set d z:=by
   show A.1.set ((d:Int)).toNat (Ajy (He (mv2 bs d) A.1 inn))=_
   rw [hv,Yw hzs]
   rfl
  rw [e,hA]
  refine ⟨rfl,fun k hk=>?_,by rw [dr];exact ih2,fun k j hk hj=>?_⟩
  ·rw [bk,if_neg (by omega)]
   exact ih1 k hk
  ·by_cases hjd:d=j
   ·subst hjd
    have hkt:k=t:=by
     have h1:=hj;have h2:=hd
     rw [HH] at h1 h2
     have:=(Rh.1 h1).2.2;have:=(Rh.1 h2).2.2;omega
    subst hkt
    rw [bk,if_pos rfl,if_pos (by omega)]
    exact hz.symm
   ·rw [bk,if_neg hjd]
    refine ih3 k j ?_ hj
    rcases bh k t with h|h
    ·exact h
    ·exfalso
     have:k=t:=by omega
     subst this
     rw [hd] at hj
     exact hjd (Option.some.inj hj)
def Apf {is:List Int} (hp:Cu ps is xs os=0) (k:Nat) (p:Prt) (z:Int) (h1:ps[k]?=some p) (h2:(ME ps inn ps.length)[k]?=some z):p.lo≤z∧z≤p.hi:=by
 have hk:=(gS.1 h1).1
 have:=Rt hp (Mw p) (by simp only [eo,jl];exact .inl ⟨p,gM h1,rfl⟩)
 have hle:p.lo≤p.hi:=by
  unfold Mw at this
  exact bw fun hn=>by rw [if_neg (fun h=>hn h.2.2.1)] at this;cases this
 unfold ME at h2
 rw [ag,gy hk] at h2
 simp only [bo,Option.some.injEq,h1,bd] at h2
 subst h2
 unfold Tv
 omega
def Apg {n k:Int} (h:BX n e k=0):Hw n e k∧DM n e k=shE n (e+k) ∧ -2147483648≤DM n e k∧DM n e k<2147483648∧BM (Ac (DM n e k) 0 (-k)).1 (Ac (DM n e k) 0 (-k)).2 (Ac n 0 e).1 (Ac n 0 e).2≤0∧0<BM (Ac (DM n e k+1) 0 (-k)).1 (Ac (DM n e k+1) 0 (-k)).2 (Ac n 0 e).1 (Ac n 0 e).2:=by
 have hok:Hw n e k:=bw fun hn=>by rw [(Akc hn).1] at h;cases h
 have hb : -2147483648≤shE n (e+k)∧shE n (e+k)<2147483648:=bw fun hn=>by rw [(TZ hok hn).1] at h;cases h
 have hv:=(AdX hok hb).2
 refine ⟨hok,hv,by omega,by omega,?_⟩
 obtain ⟨_,_,he0,he1,hk0,hk1⟩:=hok
 have pw:∀ n:Nat,(0:Int)<2 ^ n:=fun n=>iq (by decide)
 rw [QP (Hx (q:=100) (by omega) (by omega) (by omega)) (Hx (q:=100) (by omega) (by omega) (by omega)),QP (Hx (q:=100) (by omega) (by omega) (by omega)) (Hx (q:=100) (by omega) (by omega) (by omega)),Dz,Dz,hv]
 have key:shE n (e+k)*2 ^ (-k+(100:Nat)).toNat≤n*2 ^ (e+(100:Nat)).toNat∧n*2 ^ (e+(100:Nat)).toNat<(shE n (e+k)+1)*2 ^ (-k+(100:Nat)).toNat:=by
  unfold shE
  by_cases hneg:e+k<0
  ·rw [if_pos hneg,show (-k+(100:Nat)).toNat=(-(e+k)).toNat+(e+(100:Nat)).toNat by omega,al,←ah,←ah]
   have h1:=kw n (2 ^ (-(e+k)).toNat)
   have h2:=kx n (fy (pw (-(e+k)).toNat))
   have h3:=ky n (pw (-(e+k)).toNat)
   rw [cj] at h1
   refine ⟨ci (by omega) (ay (pw _)),ld ?_ (pw _)⟩
   rw [gx,jb]
   omega
  ·rw [if_neg hneg,show (e+(100:Nat)).toNat=(e+k).toNat+(-k+(100:Nat)).toNat by omega,al,←ah]
   have h4:=pw (-k+(100:Nat)).toNat
   refine ⟨ck _,?_⟩
   rw [gx,jb]
   omega
 obtain ⟨k1,k2⟩:=key
 rw [if_neg (Int.not_lt.2 (ay k2)),if_pos k2]
 refine ⟨?_,by decide⟩
 by_cases h:shE n (e+k)*2 ^ (-k+(100:Nat)).toNat<n*2 ^ (e+(100:Nat)).toNat
 ·rw [if_pos h];decide
 ·rw [if_neg h,if_neg (by omega)];decide
def AjA (t:Bool) {ps:List Prt} {is:List Int} {xs:List Ins} {os:List Int} (hp:Cu ps is xs os=0):CV prog An 47 [Yk t ps is xs os] [.one (AU false is),aE 0]:=by
 refine cvz func47 ntmps47 ?_
 obtain ⟨hp1,hi1,hx1,ho1⟩:=UQ hp
 have CK:=Aat t (lT hp1 (by decide)) (lT hi1 (by decide)) (lT hx1 (by decide)) (lT ho1 (by decide)) hp
 have hc1:is.length≤1000000:=by omega
 repeat' (with_reducible first|refine qq ?_|(refine Tx 0 ?_;refine gN xBo <| gO xA <| gO xA ?_)|(refine Tx 1 ?_;refine gO xL <| gO (xCl func119 (CK)) <| gO xA ?_)|(refine Tx 2 ?_;refine gO xM <| gO (xNE Ai) ?_)|(refine Tx 4 ?_;refine gO (by exact Qy rfl Af) <| gO xF <| gO xD <| gO (by exact Oi rfl rfl (.inl rfl) rfl (WF _) Af BV (hc1) (by decide) (by decide)) <| gO xA <| gO xA ?_))
 exact AH rfl (.cons_ (.tmp (.one (Bs rfl fun _=>Zs _))) (.cons_ (Gk rfl rfl) .nil_))
def NP {inn:List Int}:∀ {xs:List Ins} {st:List Int × Bool},(xs.foldl (Dv inn) st).1.length=st.1.length
 | [],_=>rfl
 | x::xs,st=>by rw [ki,NP];simp [Dv]
def Lg {inn:List Int}:∀ {xs:List Ins} {st:List Int × Bool},(∀ z∈st.1,Bh z=true)→∀ z∈(xs.foldl (Dv inn) st).1,Bh z=true
 | [],_,h=>h
 | x::xs,st,h=>Lg (xs:=xs) (st:=Dv inn st x) fun z hz=>by
  rcases iv hz with hz|rfl
  ·exact h z hz
  ·exact OT _
def pw2 (n:Nat):(0:Int)<2 ^ n:=iq (by decide)
def Aav {k:Int} {a:Nat} (hk:k=(b:Int) - a) (hz:k<0∨(-4294967296≤z∧z≤4294967296)):0≤z*2 ^ b - scl z k*2 ^ a∧z*2 ^ b - scl z k*2 ^ a<2 ^ a:=by
 unfold scl
 by_cases h:k<0
 ·rw [if_pos h,show a=(-k).toNat+b by omega,al,←ah]
  have h1:=kw z (2 ^ (-k).toNat)
  have h2:=kx z (fy (pw2 (-k).toNat))
  have h3:=ky z (pw2 (-k).toNat)
  have e:z*2 ^ b - z / 2 ^ (-k).toNat*2 ^ (-k).toNat*2 ^ b=(z % 2 ^ (-k).toNat)*2 ^ b:=by
   rw [←fk]
   congr 1
   rw [cj] at h1
   omega
  rw [e]
  exact ⟨gu h2 (ay (pw2 b)),ld h3 (pw2 b)⟩
 ·have hz':=hz.resolve_left h
  rw [if_neg h,show max (-4294967296) (min z 4294967296)=z by omega,show b=k.toNat+a by omega,al,←ah,Int.sub_self]
  exact ⟨ck _,pw2 a⟩
def AgE {k:Int} {a:Nat} (hk:k=(b:Int) - a):0≤z*2 ^ b - shE z k*2 ^ a∧z*2 ^ b - shE z k*2 ^ a<2 ^ a:=by
 have e:k<0→shE z k=scl z k:=fun h=>by unfold shE scl;rw [if_pos h,if_pos h]
 by_cases h:k<0
 ·rw [e h];exact Aav hk (.inl h)
 ·unfold shE
  rw [if_neg h,show b=k.toNat+a by omega,al,←ah,Int.sub_self]
  exact ⟨ck _,pw2 a⟩
def AgF {p q P:Int} (hP:0<P):min p q*P=min (p*P) (q*P):=by
 rcases Int.le_total p q with h|h
 ·have:=ci h (ay hP)
  rw [show min p q=p by omega];omega
 ·have:=ci h (ay hP)
  rw [show min p q=q by omega];omega
def Yy {p q P:Int} (hP:0<P):max p q*P=max (p*P) (q*P):=by
 rcases Int.le_total p q with h|h
 ·have:=ci h (ay hP)
  rw [show max p q=q by omega];omega
 ·have:=ci h (ay hP)
  rw [show max p q=p by omega];omega
def AjB (h:HM ps bs F=0):F.length=bs.length∧F.all HJ=true∧∀ j,j<bs.length→LF bs F j=0:=by
 unfold HM at h
 by_cases h1:F.length=bs.length
 ·rw [if_neg (not_not_intro h1)] at h
  by_cases h2:F.all HJ=true
  ·rw [if_neg (not_not_intro h2)] at h
   by_cases h3:Ak ((List.range bs.length).map (LF bs F))=0
   ·exact ⟨h1,h2,fun j hj=>CC h3 _ (List.mem_map.2 ⟨j,List.mem_range.2 hj,rfl⟩)⟩
   ·rw [if_pos h3] at h;exact absurd h h3
  ·rw [if_pos h2] at h;cases h
 ·rw [if_pos h1] at h;cases h
def Aph {n f:Int} (h:BX n e f=0) : -2147483648<n∧n<2147483648 ∧ -62≤e∧e≤30∧DM n e f=shE n (e+f):=by
 obtain ⟨hok,hv,_⟩:=Apg h
 unfold Hw at hok
 exact ⟨hok.1,hok.2.1,hok.2.2.1,hok.2.2.2.1,hv⟩
section
variable {ps:List Prt} {bs:List Bk} {os F inn:List Int}
def Xb {α β:Type} (f g:α→β):∀ (l:List α) (t:Nat),(l.flatMap fun j=>[f j,g j])[2*t]?=(l[t]?).map f∧(l.flatMap fun j=>[f j,g j])[2*t+1]?=(l[t]?).map g
 | [],t=>by simp
 | x::l,0=>by simp
 | x::l,t+1=>by
  have ih:=Xb f g l t
  rw [List.flatMap_cons,show 2*(t+1)=2*t+2 by omega]
  exact ih
def AgG (hj:j<bs.length) (hk:AK bs j=11):bs.length≤(AY bs j).toNat∧(CD bs F)[(AY bs j).toNat]?=some (Ev bs F j)∧(CD bs F)[(AY bs j+1).toNat]?=some (Hi bs F j):=by
 have ht:(cpK bs bs.length)[LH (cpB bs) j]?=some j:=Afx.2 ⟨hj,hk,rfl⟩
 have hc:AY bs j=(bs.length:Int)+((dlK bs bs.length).length:Int)+2*(LH (cpB bs) j:Int):=by unfold AY;rw [if_neg (by omega),if_pos hk]
 have hg:=Xb (fun j=>Ev bs F j) (fun j=>Hi bs F j) (cpK bs bs.length) (LH (cpB bs) j)
 rw [ht] at hg
 have hpre:(tab bs.length (fun j=>if AK bs j=2 then Ev bs F j else 0)++List.replicate (AI bs).length 0).length=bs.length+(dlK bs bs.length).length:=by rw [ak,Fu,dt,HH]
 refine ⟨by omega,?_,?_⟩
 ·unfold CD
  rw [dw (by omega),hpre,show (AY bs j).toNat - (bs.length+(dlK bs bs.length).length)=2*LH (cpB bs) j by omega]
  exact hg.1
 ·unfold CD
  rw [dw (by omega),hpre,show (AY bs j+1).toNat - (bs.length+(dlK bs bs.length).length)=2*LH (cpB bs) j+1 by omega]
  exact hg.2
end
structure Alw (bs:List Bk) (F cs:List Int):Prop where
 len:cs.length=(CD bs F).length
 short:∀ z∈cs,Bh z=true
 up:∀ c,bs.length+(AI bs).length≤c→cs[c]?=(CD bs F)[c]?
def Alw.init (bs:List Bk) (F:List Int):Alw bs F (CD bs F):=⟨rfl,fun _ hz=>Tr hz,fun _ _=>rfl⟩
def Acg (bs:List Bk) (cs V:List Int) (a:Nat):Option Int:=if AK bs a=2 then cs[a]? else V[a]?
def zC (bs:List Bk) (cs V:List Int) (a:Int):Int:=(Acg bs cs V a.toNat).getD 0
def FE (ps:List Prt) (F inn:List Int) (y:Bk) (s:Int) (z:Int→Int):Int :=
 if y.kind=0 then scl (inn[(Bi y).toNat]?.getD 0) (s - Ga ps (Bi y))
 else if y.kind=1 then DM y.vn y.ve s
 else if y.kind=6 then scl (z (Bi y)*y.vn) (s - scA F (Bi y).toNat+y.ve)
 else if y.kind=7 then scl (z (Bi y)*z (Dk y)) (s - scA F (Bi y).toNat - scA F (Dk y).toNat)
 else if y.kind=11 then max (scl (z (Bi y)) (s - scA F (Bi y).toNat)) (DM y.vn y.ve s)
 else if y.kind=3 then scl (z (Bi y)) (s - scA F (Bi y).toNat)+scl (z (Dk y)) (s - scA F (Dk y).toNat)
 else if y.kind=4 then scl (z (Bi y)) (s - scA F (Bi y).toNat) - scl (z (Dk y)) (s - scA F (Dk y).toNat)
 else if y.kind=8 then min (scl (z (Bi y)) (s - scA F (Bi y).toNat)) (scl (z (Dk y)) (s - scA F (Dk y).toNat))
 else if y.kind=9 then max (scl (z (Bi y)) (s - scA F (Bi y).toNat)) (scl (z (Dk y)) (s - scA F (Dk y).toNat))
 else if y.kind=5 then -scl (z (Bi y)) (s - scA F (Bi y).toNat)
 else max (scl (z (Bi y)) (s - scA F (Bi y).toNat)) (-scl (z (Bi y)) (s - scA F (Bi y).toNat))
def GJ (ps:List Prt) (F inn:List Int) (y:Bk) (s:Int) (z:Int→Int):Int:=if y.kind=11 then min (FE ps F inn y s z) (DM y.un y.ue s) else FE ps F inn y s z
section
variable {ps:List Prt} {bs:List Bk} {os F inn cs:List Int}
def stK (ps:List Prt) (bs:List Bk) (F inn cs:List Int) (k:Nat):List Int × Bool:=(((Bn bs).take k).flatMap (fun j=>Fv ps bs F j (AY bs j))).foldl (Dv inn) (cs,false)
abbrev stL (ps:List Prt) (bs:List Bk) (F inn cs:List Int):List Int × Bool:=stK ps bs F inn cs (Bn bs).length
def Aaw {k:Nat} (hj:(Bn bs)[k]?=some j):stK ps bs F inn cs (k+1)=(Fv ps bs F j (AY bs j)).foldl (Dv inn) (stK ps bs F inn cs k):=by
 unfold stK
 rw [aq,hj]
 simp [List.flatMap_append,fa]
def Ru (k:Nat):(stK ps bs F inn cs k).1.length=cs.length:=NP
def IE (hs:∀ z∈cs,Bh z=true) (k:Nat):∀ z∈(stK ps bs F inn cs k).1,Bh z=true:=Lg hs
def Rx {k:Nat} (hi:i ∉ (Bn bs).take k):(stK ps bs F inn cs k).1[i]?=cs[i]?:=by
 refine Ge fun x hx=>?_
 obtain ⟨j,hj,hx⟩:=List.mem_flatMap.1 hx
 rw [Yx.1 x hx]
 intro h
 have:j=i:=by omega
 exact hi (this ▸ hj)
def Lh (h:i∈Bn bs):i<bs.length∧AK bs i≠2:=(GR bs.length (Gi.nil bs)).mem i h
def AbS:(Bn bs).Nodup:=(GR bs.length (Gi.nil bs)).nodup
def Aax {k m:Nat} (hkm:k≤m) (hi:i∈(Bn bs).take k):(stK ps bs F inn cs m).1[i]?=(stK ps bs F inn cs k).1[i]?:=by
 induction m with
 | zero=>rw [Nat.le_zero.1 hkm]
 | succ m ih =>
  by_cases hk:k=m+1
  ·rw [hk]
  rw [←ih (by omega)]
  rcases hj:(Bn bs)[m]? with _|j
  ·unfold stK;rw [aq,hj];simp
  rw [Aaw hj]
  refine Ge fun x hx=>?_
  rw [Yx.1 x hx]
  intro h
  have hji:j=i:=by omega
  subst hji
  obtain ⟨q,hq⟩:=di hi
  rw [cn] at hq
  split at hq
  ·have h1:=(List.getElem?_inj (gS.1 hq).1 AbS).1 (hq.trans hj.symm)
   omega
  ·cases hq
def Alx (h:p:=by
 obtain ⟨hlt,he⟩:=gS.1 hj
 rw [←he,←dp hlt,fp]):p:=h
def at_k (h0:FV bs=0) {k j:Nat} (hj:(Bn bs)[k]?=some j) {a:Int} (ha:a∈Lk bs j) (a0:0≤a) (a1:a<bs.length):(stK ps bs F inn cs k).1[a.toNat]?=Acg bs cs (stL ps bs F inn cs).1 a.toNat:=by
 have hsplit:Bn bs=(Bn bs).take k++j::(Bn bs).drop (k+1):=by
  exact Alx
 unfold Acg
 by_cases h2:AK bs a.toNat=2
 ·rw [if_pos h2]
  exact Rx fun h=>(Lh (ed h)).2 h2
 ·rw [if_neg h2]
  have hin:=(Nd hsplit ha).resolve_left h2
  exact (Aax (jf (gS.1 hj).1) hin).symm
def UR (hC:Alw bs F cs) {V:List Int} (hl:V.length=cs.length) (hs:∀ z∈V,Bh z=true) {a:Int} (a0:0≤a) (a1:a<bs.length):Acg bs cs V a.toNat=some (zC bs cs V a) ∧ -2147483648≤zC bs cs V a∧zC bs cs V a<2147483648:=by
 have hi:=Ld bs F
 have hcl:=hC.len
 have key:∃ z,Acg bs cs V a.toNat=some z∧Bh z=true:=by
  unfold Acg
  by_cases h2:AK bs a.toNat=2
  ·rw [if_pos h2]
   obtain ⟨z,hz⟩:∃ z,cs[a.toNat]?=some z:=⟨_,gE (by omega)⟩
   exact ⟨z,hz,hC.short z (gM hz)⟩
  ·rw [if_neg h2]
   obtain ⟨z,hz⟩:∃ z,V[a.toNat]?=some z:=⟨_,gE (by omega)⟩
   exact ⟨z,hz,hs z (gM hz)⟩
 obtain ⟨z,h1,h2⟩:=key
 have h3:=Ff h2
 have e:zC bs cs V a=z:=by unfold zC;rw [h1];rfl
 rw [e]
 exact ⟨h1,h3.1,h3.2⟩
def Api (hj:j<bs.length) (hk:AK bs j=11):bs.length+(AI bs).length≤(AY bs j).toNat∧0≤AY bs j:=by
 have hc:AY bs j=(bs.length:Int)+((dlK bs bs.length).length:Int)+2*(LH (cpB bs) j:Int):=by unfold AY;rw [if_neg (by omega),if_pos hk]
 rw [HH]
 omega
def Yz {x:Ins} (hd:x.dst=(j:Int)) (hj:j<st.1.length):([x].foldl (Dv inn) st).2=(st.2 || !Bh (He x st.1 inn))∧(Bh (He x st.1 inn)=true→([x].foldl (Dv inn) st).1[j]?=some (He x st.1 inn)):=by
 refine ⟨rfl,fun h=>?_⟩
 show (st.1.set x.dst.toNat (Ajy (He x st.1 inn)))[j]?=_
 rw [Yw h,hd,ao,bk,if_pos rfl,if_pos hj]
def Tu (h:p:=by
 rw [hp]
 exact ⟨this.1,fun h=>⟨this.2 h,h⟩⟩):p:=h
def Apj (he:AO ps bs os=0) (hc:HM ps bs F=0) (hC:Alw bs F cs) (hin:ps.length≤inn.length) {k j:Nat} (hj:(Bn bs)[k]?=some j) {y:Bk} (hy:bs[j]?=some y) :
  (stK ps bs F inn cs (k+1)).2=((stK ps bs F inn cs k).2 || !Bh (FE ps F inn y (scA F j) (zC bs cs (stL ps bs F inn cs).1))) ∧
  (Bh (FE ps F inn y (scA F j) (zC bs cs (stL ps bs F inn cs).1))=true→(stK ps bs F inn cs (k+1)).1[j]?=some (GJ ps F inn y (scA F j) (zC bs cs (stL ps bs F inn cs).1))∧Bh (GJ ps F inn y (scA F j) (zC bs cs (stL ps bs F inn cs).1))=true):=by
 obtain ⟨hFl,hall,hcon⟩:=AjB hc
 have hjl:=(gS.1 hy).1
 have hYK:=Cw hy
 have hYA:=CX hy
 have ho:FV bs=0:=(Lz he).2.2
 have hk2:y.kind≠2:=by rw [←hYK];exact (Lh (gM hj)).2
 have hat:∀ a∈Lk bs j,0≤a→a<bs.length→(stK ps bs F inn cs k).1[a.toNat]?=Acg bs cs (stL ps bs F inn cs).1 a.toNat:=fun a ha=>at_k ho hj ha
 have hzr:=fun (a:Int)=>UR (a:=a) hC (V:=(stL ps bs F inn cs).1) (Ru _) (IE hC.short _)
 have hup:∀ c,bs.length≤c→(stK ps bs F inn cs k).1[c]?=cs[c]?:=fun c hc=>Rx fun h=>by
  have:=(Lh (ed h)).1
  omega
 have hlen:(stK ps bs F inn cs k).1.length=cs.length:=Ru _
 have hshort:∀ z∈(stK ps bs F inn cs k).1,Bh z=true:=IE hC.short _
 rw [Aaw hj]
 generalize stK ps bs F inn cs k=st at hat hup hlen hshort ⊢
 generalize (stL ps bs F inn cs).1=V at hat hzr ⊢
 have hil:=Ld bs F
 have hcl:=hC.len
 have hjs:j<st.1.length:=by omega
 have hone:=fun (x:Ins) (hd:x.dst=(j:Int))=>Yz (inn:=inn) (st:=st) hd hjs
 have hac:=Co he hy
 have hck:=hac.2.1
 have hcg:=hac.1
 by_cases k0:y.kind=0
 ·have hl:y.args.length=1:=by rw [k0] at hck;simp [Bc] at hck;omega
  obtain ⟨a,ha⟩:∃ a,y.args[0]?=some a:=⟨_,gE (by omega)⟩
  have h1:=hac.2.2 a (gM ha)
  rw [show Cy ps.length bs.length y.kind=ps.length from if_pos k0] at h1
  have Aa:Bi y=a:=by unfold Bi;rw [ha];rfl
  obtain ⟨r,hr⟩:∃ r,inn[a.toNat]?=some r:=⟨_,gE (by omega)⟩
  have hb:Fv ps bs F j (AY bs j)=[⟨0,j,a,0,scA F j - Ga ps a,0,0⟩]:=by unfold Fv;dsimp only;rw [hYA,if_pos k0,Aa]
  have hp:FE ps F inn y (scA F j) (zC bs cs V)=scl r (scA F j - Ga ps a):=by unfold FE;rw [if_pos k0,Aa,hr];rfl
  have hcc:GJ ps F inn y (scA F j) (zC bs cs V)=scl r (scA F j - Ga ps a):=by unfold GJ;rw [if_neg (by omega),hp]
  have:=hone ⟨0,j,a,0,scA F j - Ga ps a,0,0⟩ rfl
  rw [AtM rfl hr] at this
  rw [hb,hp,hcc]
  exact ⟨this.1,fun h=>⟨this.2 h,h⟩⟩
 have hpr:Lk bs j=y.args:=by unfold Lk Su;rw [hYK,if_neg k0,hy];rfl
 have hM:Cy ps.length bs.length y.kind=bs.length:=if_neg k0
 have arg:∀ i a,y.args[i]?=some a→st.1[a.toNat]?=some (zC bs cs V a):=fun i a h=>by
  have hm:=gM h
  have h1:=hac.2.2 a hm
  rw [hM] at h1
  exact (hat a (by rw [hpr];exact hm) h1.1 h1.2).trans (hzr a h1.1 h1.2).1
 by_cases k1:y.kind=1
 ·have hb:Fv ps bs F j (AY bs j)=[⟨1,j,0,0,0,0,Nh bs F j⟩]:=by unfold Fv;dsimp only;rw [hYA,if_neg k0,if_pos k1]
  have hrv:Nh bs F j=DM y.vn y.ve (scA F j):=by unfold Nh;rw [hYA]
  have hp:FE ps F inn y (scA F j) (zC bs cs V)=DM y.vn y.ve (scA F j):=by unfold FE;rw [if_neg k0,if_pos k1]
  have hcc:GJ ps F inn y (scA F j) (zC bs cs V)=DM y.vn y.ve (scA F j):=by unfold GJ;rw [if_neg (by omega),hp]
  have:=hone ⟨1,j,0,0,0,0,Nh bs F j⟩ rfl
  rw [Aau rfl] at this
  rw [hb,hp,hcc,←hrv]
  exact ⟨this.1,fun h=>⟨this.2 h,h⟩⟩
 have hl1:1≤y.args.length:=by unfold Bc at hck hcg;(repeat' split at hck) <;> omega
 obtain ⟨a,ha⟩:∃ a,y.args[0]?=some a:=⟨_,gE (by omega)⟩
 have Aa:Bi y=a:=by unfold Bi;rw [ha];rfl
 have hw:=arg 0 a ha
 by_cases k6:y.kind=6
 ·have hb:Fv ps bs F j (AY bs j)=[⟨6,j,a,0,scA F j - scA F a.toNat+y.ve,0,y.vn⟩]:=by unfold Fv;dsimp only;rw [hYA,if_neg k0,if_neg k1,if_pos k6,Aa]
  have hp:FE ps F inn y (scA F j) (zC bs cs V)=scl (zC bs cs V a*y.vn) (scA F j - scA F a.toNat+y.ve):=by unfold FE;rw [if_neg k0,if_neg k1,if_pos k6,Aa]
  have hcc:GJ ps F inn y (scA F j) (zC bs cs V)=scl (zC bs cs V a*y.vn) (scA F j - scA F a.toNat+y.ve):=by unfold GJ;rw [if_neg (by omega),hp]
  have:=hone ⟨6,j,a,0,scA F j - scA F a.toNat+y.ve,0,y.vn⟩ rfl
  rw [Agv rfl hw] at this
  rw [hb,hp,hcc]
  exact ⟨this.1,fun h=>⟨this.2 h,h⟩⟩
 by_cases two:y.kind=3∨y.kind=4∨y.kind=7∨y.kind=8∨y.kind=9
 ·have hl2:y.args.length=2:=by unfold Bc at hck hcg;(repeat' split at hck) <;> omega
  obtain ⟨b,hb1⟩:∃ b,y.args[1]?=some b:=⟨_,gE (by omega)⟩
  have Ab:Dk y=b:=by unfold Dk;rw [hb1];rfl
  have hv:=arg 1 b hb1
  have k11:y.kind≠11:=by omega
  have hcc:GJ ps F inn y (scA F j) (zC bs cs V)=FE ps F inn y (scA F j) (zC bs cs V):=by unfold GJ;rw [if_neg k11]
  rw [hcc]
  by_cases k7:y.kind=7
  ·have hb:Fv ps bs F j (AY bs j)=[⟨7,j,a,b,scA F j - scA F a.toNat - scA F b.toNat,0,0⟩]:=by unfold Fv;dsimp only;rw [hYA,if_neg k0,if_neg k1,if_neg k6,if_pos k7,Aa,Ab]
   have hp:FE ps F inn y (scA F j) (zC bs cs V)=scl (zC bs cs V a*zC bs cs V b) (scA F j - scA F a.toNat - scA F b.toNat):=by unfold FE;rw [if_neg k0,if_neg k1,if_neg k6,if_pos k7,Aa,Ab]
   have:=hone ⟨7,j,a,b,scA F j - scA F a.toNat - scA F b.toNat,0,0⟩ rfl
   rw [Alp rfl hw hv] at this
   rw [hb,hp]
   exact ⟨this.1,fun h=>⟨this.2 h,h⟩⟩
  have blk:Fv ps bs F j (AY bs j)=[⟨opM y.kind,j,a,b,scA F j - scA F a.toNat,scA F j - scA F b.toNat,0⟩]:=by unfold Fv;dsimp only;rw [hYA,if_neg k0,if_neg k1,if_neg k6,if_neg k7,if_neg k11,if_pos hl2,Aa,Ab]
  have:=hone ⟨opM y.kind,j,a,b,scA F j - scA F a.toNat,scA F j - scA F b.toNat,0⟩ rfl
  rw [blk]
  rcases (show y.kind=3∨y.kind=4∨y.kind=8∨y.kind=9 by omega) with q|q|q|q
  ·rw [Alm (by rw [q];rfl) hw hv] at this
   have hp:FE ps F inn y (scA F j) (zC bs cs V)=scl (zC bs cs V a) (scA F j - scA F a.toNat)+scl (zC bs cs V b) (scA F j - scA F b.toNat):=by unfold FE;rw [if_neg k0,if_neg k1,if_neg k6,if_neg k7,if_neg k11,if_pos q,Aa,Ab]
   exact Tu
  ·rw [Aln (by rw [q];rfl) hw hv] at this
   have hp:FE ps F inn y (scA F j) (zC bs cs V)=scl (zC bs cs V a) (scA F j - scA F a.toNat) - scl (zC bs cs V b) (scA F j - scA F b.toNat):=by unfold FE;rw [if_neg k0,if_neg k1,if_neg k6,if_neg k7,if_neg k11,if_neg (by omega),if_pos q,Aa,Ab]
   exact Tu
  ·rw [Agw (by rw [q];rfl) hw hv] at this
   have hp:FE ps F inn y (scA F j) (zC bs cs V)=min (scl (zC bs cs V a) (scA F j - scA F a.toNat)) (scl (zC bs cs V b) (scA F j - scA F b.toNat)):=by unfold FE;rw [if_neg k0,if_neg k1,if_neg k6,if_neg k7,if_neg k11,if_neg (by omega),if_neg (by omega),if_pos q,Aa,Ab]
   exact Tu
  ·rw [Agx (by rw [q];rfl) hw hv] at this
   have hp:FE ps F inn y (scA F j) (zC bs cs V)=max (scl (zC bs cs V a) (scA F j - scA F a.toNat)) (scl (zC bs cs V b) (scA F j - scA F b.toNat)):=by unfold FE;rw [if_neg k0,if_neg k1,if_neg k6,if_neg k7,if_neg k11,if_neg (by omega),if_neg (by omega),if_neg (by omega),if_pos q,Aa,Ab]
   exact Tu
 have k7:y.kind≠7:=by omega
 have hl1':y.args.length=1:=by unfold Bc at hck hcg;(repeat' split at hck) <;> omega
 by_cases k11:y.kind=11
 ·obtain ⟨hci,hlo,hhi⟩:=AgG (F:=F) hjl (hYK.trans k11)
  obtain ⟨hcd,hc0⟩:=Api hjl (hYK.trans k11)
  have hcV:Ev bs F j=DM y.vn y.ve (scA F j):=by unfold Ev;rw [hYK,if_pos (by omega)];unfold Nh;rw [hYA]
  have hcU:Hi bs F j=DM y.un y.ue (scA F j):=by unfold Hi;rw [hYK,if_pos k11];unfold Aip;rw [hYA]
  rw [hcV] at hlo
  rw [hcU] at hhi
  have slo:Bh (DM y.vn y.ve (scA F j))=true:=FA _ _ _
  have shi:Bh (DM y.un y.ue (scA F j))=true:=FA _ _ _
  have blk:Fv ps bs F j (AY bs j)=[⟨9,j,a,AY bs j,scA F j - scA F a.toNat,0,0⟩,⟨8,j,j,AY bs j+1,0,0,0⟩]:=by unfold Fv;dsimp only;rw [hYA,if_neg k0,if_neg k1,if_neg k6,if_neg k7,if_pos k11,Aa]
  have hup1:=(hup (AY bs j).toNat hci).trans ((hC.up _ hcd).trans hlo)
  have hup2:=(hup (AY bs j+1).toNat (by omega)).trans ((hC.up _ (by omega)).trans hhi)
  have i1:He ⟨9,j,a,AY bs j,scA F j - scA F a.toNat,0,0⟩ st.1 inn=max (scl (zC bs cs V a) (scA F j - scA F a.toNat)) (DM y.vn y.ve (scA F j)):=by
   rw [Agx rfl hw hup1]
   show max _ (scl _ 0)=_
   rw [NN slo]
  have hp:FE ps F inn y (scA F j) (zC bs cs V)=max (scl (zC bs cs V a) (scA F j - scA F a.toNat)) (DM y.vn y.ve (scA F j)):=by unfold FE;rw [if_neg k0,if_neg k1,if_neg k6,if_neg k7,if_pos k11,Aa]
  have hcc:GJ ps F inn y (scA F j) (zC bs cs V)=min (max (scl (zC bs cs V a) (scA F j - scA F a.toNat)) (DM y.vn y.ve (scA F j))) (DM y.un y.ue (scA F j)):=by unfold GJ;rw [if_pos k11,hp]
  obtain ⟨o1,o2⟩:=hone ⟨9,j,a,AY bs j,scA F j - scA F a.toNat,0,0⟩ rfl
  rw [i1] at o1 o2
  rw [hp,hcc,blk]
  rw [show ([⟨9,j,a,AY bs j,scA F j - scA F a.toNat,0,0⟩,⟨8,j,j,AY bs j+1,0,0,0⟩]:List Ins).foldl (Dv inn) st=[⟨8,j,j,AY bs j+1,0,0,0⟩].foldl (Dv inn) ([⟨9,j,a,AY bs j,scA F j - scA F a.toNat,0,0⟩].foldl (Dv inn) st) from rfl]
  have hf:([(⟨9,j,a,AY bs j,scA F j - scA F a.toNat,0,0⟩:Ins)].foldl (Dv inn) st).1[(AY bs j+1).toNat]?=some (DM y.un y.ue (scA F j)):=(Ge fun x hx=>by
   rw [List.mem_singleton.1 hx]
   show ((j:Int)).toNat≠_
   omega).trans hup2
  have hs1:=Lg (inn:=inn) (xs:=[(⟨9,j,a,AY bs j,scA F j - scA F a.toNat,0,0⟩:Ins)]) hshort
  have hl3:([(⟨9,j,a,AY bs j,scA F j - scA F a.toNat,0,0⟩:Ins)].foldl (Dv inn) st).1.length=st.1.length:=NP
  generalize max (scl (zC bs cs V a) (scA F j - scA F a.toNat)) (DM y.vn y.ve (scA F j))=p at o1 o2 ⊢
  generalize [(⟨9,j,a,AY bs j,scA F j - scA F a.toNat,0,0⟩:Ins)].foldl (Dv inn) st=s1 at o1 o2 hf hs1 hl3 ⊢
  obtain ⟨q,hq⟩:∃ q,s1.1[j]?=some q:=⟨_,gE (by omega)⟩
  have qs:=hs1 q (gM hq)
  obtain ⟨r1,r2⟩:=Yz (inn:=inn) (st:=s1) (x:=⟨8,j,j,AY bs j+1,0,0,0⟩) (j:=j) rfl (by omega)
  have i2:He ⟨8,j,j,AY bs j+1,0,0,0⟩ s1.1 inn=min q (DM y.un y.ue (scA F j)):=by
   rw [Agw rfl (by show s1.1[((j:Int)).toNat]?=_;rw [ao];exact hq) hf]
   show min (scl _ 0) (scl _ 0)=_
   rw [NN qs,NN shi]
  have ms:Bh (min q (DM y.un y.ue (scA F j)))=true:=by
   have h1:=Ff qs
   have h2:=Ff shi
   exact decide_eq_true (by omega)
  rw [i2,ms] at r1
  rw [i2] at r2
  refine ⟨by rw [r1,o1];simp,fun h=>?_⟩
  have hqp:=hq.symm.trans (o2 h)
  cases hqp
  exact ⟨r2 ms,ms⟩
 have hcc:GJ ps F inn y (scA F j) (zC bs cs V)=FE ps F inn y (scA F j) (zC bs cs V):=by unfold GJ;rw [if_neg k11]
 have blk:Fv ps bs F j (AY bs j)=[⟨opM y.kind,j,a,0,scA F j - scA F a.toNat,0,0⟩]:=by unfold Fv;dsimp only;rw [hYA,if_neg k0,if_neg k1,if_neg k6,if_neg k7,if_neg k11,if_neg (by omega),Aa]
 have:=hone ⟨opM y.kind,j,a,0,scA F j - scA F a.toNat,0,0⟩ rfl
 rw [blk,hcc]
 have hk:=Np he hy
 rcases (show y.kind=5∨y.kind=10 by omega) with q|q
 ·rw [Alo (by rw [q];rfl) hw] at this
  have hp:FE ps F inn y (scA F j) (zC bs cs V) = -scl (zC bs cs V a) (scA F j - scA F a.toNat):=by unfold FE;rw [if_neg k0,if_neg k1,if_neg k6,if_neg k7,if_neg k11,if_neg (by omega),if_neg (by omega),if_neg (by omega),if_neg (by omega),if_pos q,Aa]
  exact Tu
 ·rw [Alq (by rw [q];rfl) hw] at this
  have hp:FE ps F inn y (scA F j) (zC bs cs V)=max (scl (zC bs cs V a) (scA F j - scA F a.toNat)) (-scl (zC bs cs V a) (scA F j - scA F a.toNat)):=by unfold FE;rw [if_neg k0,if_neg k1,if_neg k6,if_neg k7,if_neg k11,if_neg (by omega),if_neg (by omega),if_neg (by omega),if_neg (by omega),if_neg (by omega),Aa]
  exact Tu
def nxC (bs:List Bk) (F cs V:List Int) (j:Nat):Int:=scl (zC bs cs V (Bi (PQ bs j))) (scA F j - scA F (Bi (PQ bs j)).toNat)
def mvK (bs:List Bk) (F inn:List Int) (st:List Int × Bool) (t:Nat):List Int × Bool:=(((AI bs).take t).map (mv1 bs F)).foldl (Dv inn) st
def AjC {t:Nat} (hj:(AI bs)[t]?=some j):mvK bs F inn st (t+1)=[mv1 bs F j].foldl (Dv inn) (mvK bs F inn st t):=by
 unfold mvK
 rw [aq,hj]
 simp [fa]
def AgH {t:Nat} (hi:i<bs.length∨bs.length+t≤i):(mvK bs F inn st t).1[i]?=st.1[i]?:=by
 refine Ge fun x hx=>?_
 obtain ⟨q,hq,rfl⟩:=List.mem_map.1 hx
 obtain ⟨k,hk⟩:=di hq
 rw [cn] at hk
 split at hk
 ·show (AY bs q).toNat≠i
  rw [Lf hk]
  omega
 ·cases hk
def Apk (he:AO ps bs os=0) (hc:HM ps bs F=0) (hC:Alw bs F cs) :
  ((GM inn (Cr ps bs F) cs).2=false ↔ (stL ps bs F inn cs).2=false∧∀ j∈AI bs,Bh (nxC bs F cs (stL ps bs F inn cs).1 j)=true) ∧
  (∀ i,i<bs.length→AK bs i≠2→(GM inn (Cr ps bs F) cs).1[i]?=(stL ps bs F inn cs).1[i]?) ∧
  ((GM inn (Cr ps bs F) cs).2=false→∀ j∈AI bs,(GM inn (Cr ps bs F) cs).1[j]?=some (nxC bs F cs (stL ps bs F inn cs).1 j)) ∧
  Alw bs F (GM inn (Cr ps bs F) cs).1:=by
 have hil:=Ld bs F
 have hcl:=hC.len
 rw [←HH] at hil
 have hlen:(stL ps bs F inn cs).1.length=cs.length:=Ru _
 have hshort:∀ z∈(stL ps bs F inn cs).1,Bh z=true:=IE hC.short _
 have hzr:=fun (a:Int)=>UR (a:=a) hC (V:=(stL ps bs F inn cs).1) (Ru _) (IE hC.short _)
 have hdl:∀ i,i<bs.length→AK bs i=2→(stL ps bs F inn cs).1[i]?=cs[i]?:=fun i _ h2=>Rx fun h=>(Lh (ed h)).2 h2
 have hcode:GM inn (Cr ps bs F) cs=((AI bs).map (mv2 bs)).foldl (Dv inn) (mvK bs F inn (stL ps bs F inn cs) (AI bs).length):=by
  unfold GM Cr mvK stL stK
  rw [au,au]
  simp only [fa]
 generalize hL:stL ps bs F inn cs=L at hlen hshort hzr hdl hcode ⊢
 -- the moves
 have key:∀ t,t≤(AI bs).length→((mvK bs F inn L t).2=false ↔ L.2=false∧∀ (k j:Nat),k<t→(AI bs)[k]?=some j→Bh (nxC bs F cs L.1 j)=true)∧(∀ (k j:Nat),k<t→(AI bs)[k]?=some j→Bh (nxC bs F cs L.1 j)=true→(mvK bs F inn L t).1[bs.length+k]?=some (nxC bs F cs L.1 j)):=by
  intro t
  induction t with
  | zero=>exact fun _=>⟨⟨fun h=>⟨h,fun k j hk=>absurd hk (fb _)⟩,fun h=>h.1⟩,fun k j hk=>absurd hk (fb _)⟩
  | succ t ih =>
   intro ht
   obtain ⟨i1,i2⟩:=ih (by omega)
   obtain ⟨j,hj⟩:∃ j,(AI bs)[t]?=some j:=⟨_,gE (by omega)⟩
   have hjm:=My.1 (gM hj)
   obtain ⟨y,hy⟩:∃ y,bs[j]?=some y:=⟨_,gE hjm.1⟩
   have hyk:y.kind=2:=by rw [←Cw hy];exact hjm.2
   have hac:=Co he hy
   have hck:=hac.2.1
   have hl:y.args.length=1:=by rw [hyk] at hck;simp [Bc] at hck;omega
   obtain ⟨a,ha⟩:∃ a,y.args[0]?=some a:=⟨_,gE (by omega)⟩
   have h1:=hac.2.2 a (gM ha)
   rw [show Cy ps.length bs.length y.kind=bs.length from if_neg (by omega)] at h1
   have Aa:Bi (PQ bs j)=a:=by rw [CX hy];unfold Bi;rw [ha];rfl
   have hz:=(hzr a h1.1 h1.2).1
   have hbef:Acg bs cs L.1 a.toNat=L.1[a.toNat]?:=by
    unfold Acg
    by_cases h2:AK bs a.toNat=2
    ·rw [if_pos h2,hdl _ (by omega) h2]
    ·rw [if_neg h2]
   have hcell:(mvK bs F inn L t).1[a.toNat]?=some (zC bs cs L.1 a):=by rw [AgH (.inl (by omega)),←hbef];exact hz
   have hins:He (mv1 bs F j) (mvK bs F inn L t).1 inn=nxC bs F cs L.1 j:=by
    rw [UM (w:=zC bs cs L.1 a) rfl (by show (mvK bs F inn L t).1[(Bi (PQ bs j)).toNat]?=_;rw [Aa];exact hcell)]
    unfold nxC
    rw [Aa]
    show scl _ (scA F j - scA F (Bi (PQ bs j)).toNat)=_
    rw [Aa]
   have hml:(mvK bs F inn L t).1.length=L.1.length:=NP
   obtain ⟨o1,o2⟩:=Yz (inn:=inn) (st:=mvK bs F inn L t) (x:=mv1 bs F j) (j:=bs.length+t) (by show AY bs j=_;rw [Lf hj];omega) (by omega)
   rw [hins] at o1 o2
   rw [AjC hj]
   constructor
   ·rw [o1,iu,i1,Bool.not_eq_false']
    constructor
    ·rintro ⟨⟨g1,g2⟩,g3⟩
     refine ⟨g1,fun k j' hk hj'=>?_⟩
     by_cases hkt:k=t
     ·subst hkt
      rw [hj] at hj'
      cases hj'
      exact g3
     ·exact g2 k j' (by omega) hj'
    ·rintro ⟨g1,g2⟩
     exact ⟨⟨g1,fun k j' hk hj'=>g2 k j' (by omega) hj'⟩,g2 t j (by omega) hj⟩
   ·intro k j' hk hj' hs
    by_cases hkt:k=t
    ·subst hkt
     rw [hj] at hj'
     cases hj'
     exact o2 hs
    ·refine (Ge fun x hx=>?_).trans (i2 k j' (by omega) hj' hs)
     rw [List.mem_singleton.1 hx]
     show (AY bs j).toNat≠_
     rw [Lf hj]
     omega
 obtain ⟨k1,k2⟩:=key _ (aa _)
 have hms:∀ z∈(mvK bs F inn L (AI bs).length).1,Bh z=true:=Lg hshort
 have hml:(mvK bs F inn L (AI bs).length).1.length=L.1.length:=NP
 obtain ⟨_,m1,m2,m3⟩:=Xa (bs:=bs) (inn:=inn) (st:=mvK bs F inn L (AI bs).length) (by omega) hms (AI bs).length (aa _)
 rw [au] at m1 m2 m3
 have flag2:∀ (l:List Nat) (st:List Int × Bool),(∀ q∈l,q∈AI bs)→bs.length+(AI bs).length≤st.1.length→(∀ z∈st.1,Bh z=true)→((l.map (mv2 bs)).foldl (Dv inn) st).2=st.2:=by
  intro l
  induction l with
  | nil=>exact fun _ _ _ _=>rfl
  | cons q l ih =>
   intro st hm hsl hss
   rw [bp,ki,ih _ (fun x hx=>hm x (ek _ hx)) (by show _≤(st.1.set _ _).length;rw [dr];exact hsl) (fun z hz=>by
    rcases iv hz with hz|rfl
    ·exact hss z hz
    ·exact OT _)]
   obtain ⟨t,ht⟩:=di (hm q (fd ..))
   have htl:=(gS.1 ht).1
   obtain ⟨z,hz⟩:∃ z,st.1[bs.length+t]?=some z:=⟨_,gE (by omega)⟩
   have hzs:=hss z (gM hz)
   have hv:He (mv2 bs q) st.1 inn=z:=by
    rw [UM (w:=z) rfl (by show st.1[(AY bs q).toNat]?=_;rw [Lf ht,show ((bs.length:Int)+(t:Int)).toNat=bs.length+t by omega];exact hz)]
    exact NN hzs
   show (st.2 || !Bh (He (mv2 bs q) st.1 inn))=_
   rw [hv,hzs]
   simp
 have hfl:(GM inn (Cr ps bs F) cs).2=(mvK bs F inn L (AI bs).length).2:=by rw [hcode];exact flag2 _ _ (fun q hq=>hq) (by omega) hms
 have hflag:(GM inn (Cr ps bs F) cs).2=false ↔ L.2=false∧∀ j∈AI bs,Bh (nxC bs F cs L.1 j)=true:=by
  rw [hfl,k1]
  refine and_congr_right fun _=>⟨fun h j hj=>?_,fun h k j _ hj=>h j (gM hj)⟩
  obtain ⟨t,ht⟩:=di hj
  exact h t j (gS.1 ht).1 ht
 refine ⟨hflag,fun i hi h2=>?_,fun h j hj=>?_,?_,?_,?_⟩
 ·rw [hcode]
  refine (Ge fun x hx=>?_).trans (AgH (.inl hi))
  obtain ⟨q,hq,rfl⟩:=List.mem_map.1 hx
  have:=My.1 hq
  show ((q:Int)).toNat≠i
  intro h
  have:q=i:=by omega
  subst this
  omega
 ·obtain ⟨t,ht⟩:=di hj
  have htl:=(gS.1 ht).1
  rw [hcode,m3 t j htl ht,k2 t j htl ht ((hflag.1 h).2 j hj)]
 ·rw [UO];exact hcl
 ·exact fun z hz=>decide_eq_true (Ts (inn:=inn) hC.short z hz)
 ·intro c hc2
  refine (Ge fun x hx=>?_).trans (hC.up c hc2)
  have:=Ajz hx
  omega
end
section
variable {n d:Nat}
def Aly {p q:Pq} (hp:Sm p n d) (hq:Sm q n d) (hd:d≤30000):gv (Xf (p,p) (q,q)).1=gv (BR p q)∧gv (Xf (p,p) (q,q)).2=gv (BR p q):=by
 have m:Sm (BR p q) (n+n) (d+d):=Sm.mul hp hq hd
 obtain ⟨e1,e2,_⟩:=Em m m m m
 exact ⟨by show gv (Dc [BR p q,BR p q,BR p q,BR p q]).1=_;rw [e1];omega,by show gv (Dc [BR p q,BR p q,BR p q,BR p q]).2=_;rw [e2];omega⟩
def YA {p q:Pq} (hp:Sm p n d) (hq:Sm q n d) (hd:d≤30000):gv (BR p q)=gv (BR q p):=by
 have h1:=hp.d
 have h2:=hq.d
 have e1:=GZ (p:=p) (q:=q) (by show p.2+q.2≤65536;omega)
 have e2:=GZ (p:=q) (q:=p) (by show q.2+p.2≤65536;omega)
 refine ew (fy (Bg GQ)) ?_
 rw [e1,e2,cj]
def AtO {p:Pq} (hp:Sm p n d):gv (RQ (p,p)).1=gv (Ha p)∧gv (RQ (p,p)).2=gv (Ha p):=by
 obtain ⟨e1,e2⟩:gv (RQ (p,p)).1=(if gv p<0∧0<gv p then 0 else min ((gv p).natAbs:Int) (gv p).natAbs)∧gv (RQ (p,p)).2=max ((gv p).natAbs:Int) (gv p).natAbs:=Ij (IwS.pt hp)
 rw [show gv (Ha p)=_ from Nq p]
 refine ⟨?_,by rw [e2];omega⟩
 rw [e1,if_neg (by omega)]
 omega
end
def ptL (l:List Pq):List Iq:=l.map fun p=>(p,p)
def AgI (l:List Pq) (k:Nat):(ptL l)[k]?.getD iZ=(l[k]?.getD (0,0),l[k]?.getD (0,0)):=by
 unfold ptL
 rw [ag]
 cases l[k]? <;> rfl
def AtP {d:Nat} (h:∀ p∈l,Sm p n d):∀ a∈ptL l,IwS a n d:=fun a ha=>by
 obtain ⟨p,hp,rfl⟩:=List.mem_map.1 ha
 exact .pt (h p hp)
def AtQ {y:Bk} (hl:∀ p∈l,Sm p LB LB) (hv:(y.kind=1∨y.kind=6∨y.kind=11)→Dn y.vn y.ve) (hu:y.kind=11→Dn y.un y.ue) (hk:y.kind=1∨y.kind=3∨y.kind=4∨y.kind=5∨y.kind=6∨y.kind=7∨y.kind=8∨y.kind=9∨y.kind=10∨y.kind=11):gv (EM y (ptL l)).1=gv (Gm y l)∧gv (EM y (ptL l)).2=gv (Gm y l):=by
 have a:=CY hl 0
 have b:=CY hl 1
 unfold EM Gm
 rw [AgI,AgI]
 generalize l[0]?.getD (0,0)=p at a ⊢
 generalize l[1]?.getD (0,0)=q at b ⊢
 rcases hk with h|h|h|h|h|h|h|h|h|h <;> simp only [h,Int.reduceEq,if_true,if_false,reduceIte]
 ·exact ⟨trivial,trivial⟩
 ·exact ⟨rfl,rfl⟩
 ·exact ⟨rfl,rfl⟩
 ·exact ⟨rfl,rfl⟩
 ·have s:=Ef (hv (.inr (.inl h)))
  have e:=Aly a s (by decide:LB≤30000)
  have c:=YA s a (by decide:LB≤30000)
  exact ⟨e.1.trans c.symm,e.2.trans c.symm⟩
 ·exact Aly a b (by decide:LB≤30000)
 ·exact ⟨rfl,rfl⟩
 ·exact ⟨rfl,rfl⟩
 ·exact AtO a
 ·exact ⟨rfl,rfl⟩
def vIn (v:Pq) (r:Iq):Prop:=gv r.1≤gv v∧gv v≤gv r.2
def Apl {y:Bk} {L:List Iq} (hl:∀ p∈l,Sm p LB LB) (hL:∀ p∈L,IwS p LB LB) (hi:∀ k:Nat,vIn (l[k]?.getD (0,0)) (L[k]?.getD iZ)) (hv:(y.kind=1∨y.kind=6∨y.kind=11)→Dn y.vn y.ve) (hu:y.kind=11→Dn y.un y.ue) (hk:y.kind=1∨y.kind=3∨y.kind=4∨y.kind=5∨y.kind=6∨y.kind=7∨y.kind=8∨y.kind=9∨y.kind=10∨y.kind=11):vIn (Gm y l) (EM y L):=by
 obtain ⟨e1,e2⟩:=AtQ hl hv hu hk
 have h:=Ath (AtP hl) hL (fun k=>by rw [AgI];exact hi k) hv hu hk
 obtain ⟨h1,h2⟩:=h
 exact ⟨by rw [←e1];exact h1,by rw [←e2];exact h2⟩
def AjD {p:Prt} (h:RR p) (h1:p.lo≤z) (h2:z≤p.hi):vIn (Ac z 0 (-p.fr)) (Mr p):=by
 have e0:=Im (z:=z) h.f0 h.f1
 have e1:gv (Mr p).1*2 ^ p.fr.toNat=p.lo*2 ^ GQ:=Im (z:=p.lo) h.f0 h.f1
 have e2:gv (Mr p).2*2 ^ p.fr.toNat=p.hi*2 ^ GQ:=Im (z:=p.hi) h.f0 h.f1
 have p2:=Bg p.fr.toNat
 have g1:=ci h1 (ay (Bg GQ))
 have g2:=ci h2 (ay (Bg GQ))
 exact ⟨gc (by rw [e0,e1];exact g1) p2,gc (by rw [e0,e2];exact g2) p2⟩
def Nr (U z V B:Int):Prop := -B≤z*U - V∧z*U - V≤B
def AjE {b A B:Int} (h1 : -A≤a) (h2:a≤A) (h3 : -B≤b) (h4:b≤B) : -(A*B)≤a*b∧a*b≤A*B:=by
 have h:=WL h1 h2 h3 h4
 rw [Int.neg_mul_neg,cz,Int.mul_neg] at h
 have hA:0≤A:=by omega
 have hB:0≤B:=by omega
 have hAB:=gu hA hB
 omega
abbrev uN (s:Int):Int:=2 ^ (GQ - s.toNat)
def Alz {k:Int} {a:Nat} (hk:k=(b:Int) - a) (h0:0≤k) (hz : -4294967296≤z∧z≤4294967296):scl z k*2 ^ a=z*2 ^ b:=by
 unfold scl
 rw [if_neg (by omega),show max (-4294967296) (min z 4294967296)=z by omega,show b=k.toNat+a by omega,al,ah]
def AtR (h0:0≤s) (h1:s≤30):gv (pw (-s))=uN s:=AsO h0 h1
def AtS (h0:0≤s) (h1:s≤30):gv (ixP true s)=uN s:=AtR h0 h1
def AtT:gv (ixP false s)=0:=Ic
def YB {E:List Pq} {v:Pq} (s0:0≤s) (s1:s≤30) (a0:0≤sG F a) (a1:sG F a≤30) (hE:∀ p∈E,Sm p LB LB) (z0 : -2147483648≤z) (z1:z<2147483648) (h:Nr (uN (sG F a)) z (gv v) (gv (eG E a))):Nr (uN s) (scl z (s - sG F a)) (gv v) (gv (mvP F E s a)):=by
 have e:s - sG F a=((GQ - (sG F a).toNat:Nat):Int) - ((GQ - s.toNat:Nat):Int):=by unfold GQ;omega
 unfold Nr at h ⊢
 unfold mvP
 by_cases hs:sG F a≤s
 ·rw [if_pos hs,Alz (z:=z) e (by omega) ⟨by omega,by omega⟩];exact h
 ·rw [if_neg hs,show gv (Du (eG E a) (pw (-s)))=_ from CL (Eo hE a).le (WG s0 s1).le,AtR s0 s1]
  have:=Aav (z:=z) e (.inr ⟨by omega,by omega⟩)
  unfold uN at *
  omega
def NQ {n:Int} (s0:0≤s) (s1:s≤30) (h:rwB n e s=true):Nr (uN s) (DM n e s) (gv (Ac n 0 e)) (gv (ixP (!BS n e s) s))∧Dn n e:=by
 have h:=of_decide_eq_true h
 obtain ⟨n0,n1,e0,e1,hv⟩:=Aph h
 have hsc:Dn n e:=by
  refine ⟨n0,n1,e0,e1⟩
 refine ⟨?_,hsc⟩
 have sm:=Ef hsc
 have hg:gv (Ac n 0 e)=n*2 ^ (65536+e).toNat:=by
  have h1:=Rp.shift (x:=n) (k:=e) (by omega) (by omega)
  unfold Rp at h1
  have h2:=QX (p:=Ac n 0 e) sm.le
  have h3:(Ac n 0 e).2≤200:=(Sm.shift (n:=32) (x:=n) (k:=e) (by omega) (by omega) (by omega)).d
  have h4:n*2 ^ (65536+e).toNat*2 ^ (Ac n 0 e).2=n*2 ^ (e+200).toNat*2 ^ (Ac n 0 e).2*2 ^ (65536 - 200):=by
   rw [ah (n*_),cj (2 ^ (Ac n 0 e).2) (2 ^ (65536 - 200)),←ah]
   congr 1
   rw [ah,←al]
   congr 2
   omega
  have h5:gv (Ac n 0 e)*2 ^ (Ac n 0 e).2=n*2 ^ (65536+e).toNat*2 ^ (Ac n 0 e).2:=by
   rw [←h2,h4,←h1,ah,←al]
   rfl
  exact ew (Pa _) h5
 have hf:=AgE (z:=n) (k:=e+s) (a:=GQ - s.toNat) (b:=(65536+e).toNat) (by unfold GQ;omega)
 rw [←hg,←hv] at hf
 unfold Nr
 cases hw:BS n e s with
 | false=>rw [fm,AtS s0 s1];unfold uN;omega
 | true =>
  rw [fj,AtT]
  have hw2:=of_decide_eq_true hw
  have h6:gv (ES (Ac n 0 e) s)=gv (Ac n 0 e)*2 ^ s.toNat:=by
   have:=Ie (p:=Ac n 0 e) (n:=s.toNat) sm.le (by omega)
   rwa [show ((s.toNat:Nat):Int)=s by omega] at this
  have h7:gv (ES (Ac n 0 e) s)=(ES (Ac n 0 e) s).1*2 ^ GQ:=by unfold gv;rw [hw2];rfl
  generalize (ES (Ac n 0 e) s).1=w at h7
  have h8:gv (Ac n 0 e)=w*2 ^ (GQ - s.toNat):=by
   have h9:gv (Ac n 0 e)*2 ^ s.toNat=w*2 ^ (GQ - s.toNat)*2 ^ s.toNat:=by
    rw [←h6,h7,ah,←al]
    congr 2
    unfold GQ
    omega
   exact ew (Pa _) h9
  rw [h8] at hf ⊢
  have hp:(0:Int)<2 ^ (GQ - s.toNat):=Bg _
  have key:DM n e s=w:=by
   rw [←fk] at hf
   have k1:0≤w - DM n e s:=bw fun hn=>by
    have:=ks (show w - DM n e s<0 by omega) hp
    omega
   have k2:¬ 1≤w - DM n e s:=fun hn=>by
    have:=ci hn (ay hp)
    omega
   omega
  rw [key]
  unfold uN
  omega
def AbT {v:Pq} {r:Iq} {e:Pq} (s0:0≤s) (s1:s≤30) (hr:IwS r LB LB) (he:Sm e LB LB) (hv:vIn v r) (h:Nr (uN s) z (gv v) (gv e)) (hf:LM (Du (DA r) e) s=true) : -2147483647≤z∧z≤2147483647:=by
 have sM:=Pg hr
 rw [Aad (Sm.sum sM he (by decide)) (by decide) s0 s1,decide_eq_true_eq,show gv (Du (DA r) e)=_ from CL sM.le he.le] at hf
 have hm:gv (DA r)=_:=(Ij hr).2
 have e1:(2:Int) ^ GQ=uN s*2 ^ s.toNat:=by
  unfold uN
  rw [←al]
  congr 1
  unfold GQ
  omega
 rw [e1,←ah] at hf
 have h2:gv (DA r)+gv e≤2147483647*uN s:=gc hf (Bg _)
 have hp:0<uN s:=Bg _
 unfold Nr at h
 unfold vIn at hv
 have u1:z*uN s≤2147483647*uN s:=by omega
 have u2 : -2147483647*uN s≤z*uN s:=by rw [cz];omega
 exact ⟨gc u2 hp,gc u1 hp⟩
def YD {U V B B':Int} (h:Nr U z V B) (hb:B≤B'):Nr U z V B':=by unfold Nr at *;omega
def AgJ {k:Int} (h : -2147483648≤shE z k∧shE z k≤2147483648):scl z k=shE z k:=by
 unfold scl shE at *
 by_cases hk:k<0
 ·rw [if_pos hk,if_pos hk]
 ·rw [if_neg hk] at h ⊢
  rw [if_neg hk]
  have hp:(1:Int)≤2 ^ k.toNat:=Bg _
  congr 1
  have key : -2147483648≤z∧z≤2147483648:=by
   rcases Int.le_total 0 z with hz|hz
   ·have:=js hp hz
    omega
   ·have:=Int.mul_le_mul_of_nonpos_left hz hp
    omega
  omega
section
variable {ps:List Prt} {bs:List Bk} {os:List Int} {c:Ct}
def AgK (A:GI ps bs os c) {j:Nat} {y:Bk} (hy:bs[j]?=some y) (k0:y.kind≠0):∀ a∈y.args,0≤a∧a<bs.length∧0≤sG c.F a∧sG c.F a≤30:=fun a ha=>by
 have h1:=(Co A.he hy).2.2 a ha
 rw [show Cy ps.length bs.length y.kind=bs.length from if_neg k0] at h1
 have hs:=(A.parts hy).1
 unfold Eb at hs
 have h2:=(Bool.and_eq_true_iff.1 (Bool.and_eq_true_iff.1 hs).2).1
 rw [decide_eq_false k0,gp] at h2
 have h3:0≤sG c.F a∧sG c.F a≤30:=of_decide_eq_true (List.all_eq_true.1 h2 a ha)
 exact ⟨h1.1,h1.2,h3⟩
def Xc (A:GI ps bs os c) {j:Nat} {y:Bk} (hy:bs[j]?=some y):RC ps c.F y (scA c.F j)=true:=by
 have hs:=(A.parts hy).1
 unfold Eb at hs
 exact (Bool.and_eq_true_iff.1 (Bool.and_eq_true_iff.1 hs).2).2
structure GK (c:Ct) (j:Nat) (z:Int) (v:Pq):Prop where
 nr:Nr (uN (scA c.F j)) z (gv v) (gv (c.E[j]?.getD (0,0)))
 vin:vIn v (c.R[j]?.getD iZ)
 z0 : -2147483648≤z
 z1:z<2147483648
def GI.cell_of (A:GI ps bs os c) {j:Nat} {y:Bk} (hy:bs[j]?=some y) {z:Int} {v:Pq} (hv:vIn v (c.R[j]?.getD iZ)) (hn:Nr (uN (scA c.F j)) z (gv v) (gv (AM ps c.F c.R c.E y (scA c.F j)))):GK c j z v:=by
 obtain ⟨_,_,hb,hf,s0,s1⟩:=A.parts hy
 have hn2:=YD hn hb
 unfold Ajg at hf
 have:=AbT s0 s1 (Bx A.ok.sR j) (CY A.ok.sE j) hv hn2 (Bool.and_eq_true_iff.1 hf).1
 exact ⟨hn2,hv,by omega,by omega⟩
def GI.rng (A:GI ps bs os c) {j:Nat} {y:Bk} (hy:bs[j]?=some y) {v:Pq} {r:Iq} (hr:LL ps c.R y=r) (hi:IwS r 20000 20000) (hv:vIn v r):vIn v (c.R[j]?.getD iZ):=by
 have h:=(A.parts hy).2.1
 unfold Dd at h
 rw [hr,Atg hi ((Bx A.ok.sR j).more (by decide) (by decide))] at h
 unfold gIn at h
 unfold vIn at hv ⊢
 omega
def GI.cell (A:GI ps bs os c) {j:Nat} {y:Bk} (hy:bs[j]?=some y) (k2:y.kind≠2) {inn:List Int} (hin:Wc ps inn=true) (hil:inn.length=ps.length) {z:Int→Int} {V:List Pq} (hV:∀ p∈V,Sm p LB LB) (hA:y.kind≠0→∀ a∈y.args,∃v,V[a.toNat]?=some v∧GK c a.toNat (z a) v) :
  GK c j (GJ ps c.F inn y (scA c.F j) z) (Dt y (DU V y) ps inn)∧Bh (FE ps c.F inn y (scA c.F j) z)=true:=by
 obtain ⟨_,hrg,hb,hf,s0,s1⟩:=A.parts hy
 have hsh:=Xc A hy
 have hac:=Co A.he hy
 have hck:=hac.2.1
 have hcg:=hac.1
 have hym:=gM hy
 have fin:∀ {m:Int} {v:Pq},FE ps c.F inn y (scA c.F j) z=m→y.kind≠11→GK c j m v→GK c j (GJ ps c.F inn y (scA c.F j) z) v∧Bh (FE ps c.F inn y (scA c.F j) z)=true:=fun {m v} hm k11 hc=>by
  unfold GJ
  rw [if_neg k11,hm]
  exact ⟨hc,decide_eq_true ⟨hc.z0,by have:=hc.z1;omega⟩⟩
 by_cases k0:y.kind=0
 ·have hl:y.args.length=1:=by rw [k0] at hck;simp [Bc] at hck;omega
  obtain ⟨a,ha⟩:∃ a,y.args[0]?=some a:=⟨_,gE (by omega)⟩
  have h1:=hac.2.2 a (gM ha)
  rw [show Cy ps.length bs.length y.kind=ps.length from if_pos k0] at h1
  obtain ⟨p,hp⟩:∃ p,ps[a.toNat]?=some p:=⟨_,gE (by omega)⟩
  obtain ⟨r,hr⟩:∃ r,inn[a.toNat]?=some r:=⟨_,gE (by omega)⟩
  have hrr:=Akm hin hp hr
  have P:=Rb A.he hp
  have f0:=P.l0;have f1:=P.le;have f2:=P.h1;have f3:=P.f0;have f4:=P.f1
  have Aa:Bi y=a:=by unfold Bi;rw [ha];rfl
  have hfr:Ga ps a=p.fr:=by unfold Ga;rw [hp];rfl
  have hpre:FE ps c.F inn y (scA c.F j) z=scl r (scA c.F j - p.fr):=by unfold FE;rw [if_pos k0,Aa,hr,hfr];rfl
  have hval:Dt y (DU V y) ps inn=Ac r 0 (-p.fr):=by unfold Dt;rw [if_pos k0,ha];simp [hr,hp]
  have hri:LL ps c.R y=Mr p:=by unfold LL BH;rw [if_neg k2,if_pos k0,ha];simp [hp]
  refine fin hpre (by omega) ?_
  rw [hval]
  refine A.cell_of hy (A.rng hy hri (P.iw.more (by decide) (by decide)) (AjD P hrr.1 hrr.2)) ?_
  have hbe:AM ps c.F c.R c.E y (scA c.F j)=ixP (decide (scA c.F j<p.fr)) (scA c.F j):=by unfold AM;rw [if_pos k0,Aa,hfr]
  have hg:=Im (z:=r) f3 f4
  have e:scA c.F j - p.fr=((GQ - p.fr.toNat:Nat):Int) - ((GQ - (scA c.F j).toNat:Nat):Int):=by unfold GQ;omega
  have hgv:gv (Ac r 0 (-p.fr))=r*2 ^ (GQ - p.fr.toNat):=by
   refine ew (Pa p.fr.toNat) ?_
   rw [hg,ah,←al]
   congr 2
   unfold GQ
   omega
  unfold Nr
  rw [hbe,hgv]
  by_cases hs:scA c.F j<p.fr
  ·rw [decide_eq_true hs,AtS s0 s1]
   have:=Aav (z:=r) e (.inr ⟨by omega,by omega⟩)
   unfold uN
   omega
  ·rw [decide_eq_false hs,AtT]
   unfold uN
   rw [Alz e (by omega) (by omega)]
   omega
 have hag:=AgK A hy k0
 have hA:=hA k0
 have hrv:LL ps c.R y=EM y (Dm c.R y):=by unfold LL BH;rw [if_neg k2,if_neg k0]
 have hval:Dt y (DU V y) ps inn=Gm y (DU V y):=if_neg k0
 have hk:=Np A.he hy
 have hk':y.kind=1∨y.kind=3∨y.kind=4∨y.kind=5∨y.kind=6∨y.kind=7∨y.kind=8∨y.kind=9∨y.kind=10∨y.kind=11:=by omega
 have hsv:(y.kind=1∨y.kind=6∨y.kind=11)→Dn y.vn y.ve:=fun h=>HW A.he hy (by unfold Sv;rcases h with h|h|h <;> rw [h] <;> rfl)
 have hsu:y.kind=11→Dn y.un y.ue:=fun h=>(GU A.he hy h).2.1
 have hl:∀ p∈DU V y,Sm p LB LB:=Ajf hV
 have hL:∀ p∈Dm c.R y,IwS p LB LB:=Ea A.ok.sR
 have argk:∀ (n:Nat) (a:Int),y.args[n]?=some a→∃ v,(DU V y)[n]?=some v∧GK c a.toNat (z a) v∧Sm v LB LB:=fun n a ha=>by
  obtain ⟨v,h1,h2⟩:=hA a (gM ha)
  exact ⟨v,Aje k0 ha h1,h2,hV v (gM h1)⟩
 have hin2:vIn (Gm y (DU V y)) (c.R[j]?.getD iZ):=by
  refine A.rng hy hrv ((Hb hL hsv hsu hk').more (by decide) (by decide)) (Apl hl hL (fun k=>?_) hsv hsu hk')
  rcases ha:y.args[k]? with _|a
  ·have e1:(DU V y)[k]?=none:=by rw [jt,AfH k0];exact List.getElem?_eq_none_iff.1 ha
   have e2:(Dm c.R y)[k]?=none:=by rw [jt,AfJ k0];exact List.getElem?_eq_none_iff.1 ha
   rw [e1,e2]
   exact ⟨ck _,ck _⟩
  ·obtain ⟨v,h1,h2,_⟩:=argk k a ha
   have hlt:=(hag a (gM ha)).2.1
   have a0:=(hag a (gM ha)).1
   obtain ⟨r,hr⟩:∃ r,c.R[a.toNat]?=some r:=⟨_,gE (by rw [A.ok.lR];omega)⟩
   rw [h1,CJ k0 ha hr]
   have:=h2.vin
   rw [hr] at this
   exact this
 rw [hval]
 have put:=fun {m:Int} (hn:Nr (uN (scA c.F j)) m (gv (Gm y (DU V y))) (gv (AM ps c.F c.R c.E y (scA c.F j))))=>A.cell_of hy hin2 hn
 by_cases k1:y.kind=1
 ·have hrw:rwB y.vn y.ve (scA c.F j)=true:=by unfold RC at hsh;rw [if_neg k0,if_pos k1] at hsh;exact hsh
  refine fin (m:=DM y.vn y.ve (scA c.F j)) (by unfold FE;rw [if_neg k0,if_pos k1]) (by omega) (put ?_)
  rw [show Gm y (DU V y)=Ac y.vn 0 y.ve by unfold Gm;rw [if_pos k1],show AM ps c.F c.R c.E y (scA c.F j)=ixP (!BS y.vn y.ve (scA c.F j)) (scA c.F j) by unfold AM;rw [if_neg k0,if_pos k1]]
  exact (NQ s0 s1 hrw).1
 have hl1:1≤y.args.length:=by unfold Bc at hck hcg;(repeat' split at hck) <;> omega
 obtain ⟨a,ha⟩:∃ a,y.args[0]?=some a:=⟨_,gE (by omega)⟩
 have Aa:Bi y=a:=by unfold Bi;rw [ha];rfl
 obtain ⟨a0,a1,b0,b1⟩:=hag a (gM ha)
 obtain ⟨v,L0,C0,S0⟩:=argk 0 a ha
 have M0:=YB (F:=c.F) s0 s1 b0 b1 A.ok.sE C0.z0 C0.z1 C0.nr
 by_cases k6:y.kind=6
 ·have sv:=hsv (by omega)
  have sm:=Ef sv
  have sv':=sv
  unfold Dn at sv'
  have hgv:gv (Ac y.vn 0 y.ve)=y.vn*2 ^ (65536+y.ve).toNat:=by
   by_cases he:y.ve<0
   ·have h1:=Ns (p:=(y.vn,0)) (n:=(-y.ve).toNat) (by show 0+_≤GQ;unfold GQ;omega) (by omega)
    rw [show -(((-y.ve).toNat:Nat):Int)=y.ve by omega,LJ] at h1
    refine ew (Pa (-y.ve).toNat) ?_
    rw [show gv (Ac y.vn 0 y.ve)*2 ^ (-y.ve).toNat=_ from h1,ah,←al]
    congr 2
    unfold GQ
    omega
   ·have h1:=Ie (p:=(y.vn,0)) (n:=y.ve.toNat) (by show 0≤GQ;omega) (by omega)
    rw [show ((y.ve.toNat:Nat):Int)=y.ve by omega,LJ] at h1
    rw [show gv (Ac y.vn 0 y.ve)=_ from h1,ah,←al]
    congr 2
    unfold GQ
    omega
  have hB:Gm y (DU V y)=BR (Ac y.vn 0 y.ve) v:=by unfold Gm;simp [k6,L0]
  have hbe:AM ps c.F c.R c.E y (scA c.F j)=Du (BR (Ha (Ac y.vn 0 y.ve)) (eG c.E a)) (ixP (decide (scA c.F j - sG c.F a+y.ve<0)) (scA c.F j)):=by unfold AM;simp [k6,Aa]
  have hpre:FE ps c.F inn y (scA c.F j) z=scl (z a*y.vn) (scA c.F j - sG c.F a+y.ve):=by unfold FE;rw [if_neg k0,if_neg k1,if_pos k6,Aa]
  have m1:=GZ (p:=Ha (Ac y.vn 0 y.ve)) (q:=eG c.E a) (lT (dc sm.abs.d (Eo A.ok.sE a).d) (by decide))
  have m2:=GZ (p:=Ac y.vn 0 y.ve) (q:=v) (lT (dc sm.d S0.d) (by decide))
  have hbg:gv (AM ps c.F c.R c.E y (scA c.F j))=gv (BR (Ha (Ac y.vn 0 y.ve)) (eG c.E a))+gv (ixP (decide (scA c.F j - sG c.F a+y.ve<0)) (scA c.F j)):=by
   rw [hbe]
   exact CL (Sm.mul sm.abs (Eo A.ok.sE a) (by decide)).le (OG s0 s1).le
  have e:scA c.F j - sG c.F a+y.ve=(((65536+y.ve - sG c.F a).toNat:Nat):Int) - ((GQ - (scA c.F j).toNat:Nat):Int):=by unfold GQ;omega
  have hfl:=AgE (z:=z a*y.vn) e
  have hsc:z a*y.vn*2 ^ (65536+y.ve - sG c.F a).toNat*2 ^ GQ=z a*uN (sG c.F a)*gv (Ac y.vn 0 y.ve):=by
   rw [hgv]
   unfold uN
   rw [ah (z a*y.vn),←al,show z a*2 ^ (GQ - (sG c.F a).toNat)*(y.vn*2 ^ (65536+y.ve).toNat)=z a*y.vn*(2 ^ (GQ - (sG c.F a).toNat)*2 ^ (65536+y.ve).toNat) by simp only [ah,Int.mul_left_comm],←al]
   congr 2
   unfold GQ
   omega
  have hnr:=C0.nr
  unfold Nr at hnr
  have hd:=AjE (a:=z a*uN (sG c.F a) - gv v) (A:=gv (eG c.E a)) (b:=gv (Ac y.vn 0 y.ve)) (B:=((gv (Ac y.vn 0 y.ve)).natAbs:Int)) hnr.1 hnr.2 (by omega) (by omega)
  rw [fk,←hsc,cj (gv (eG c.E a)),←Nq,←show gv (BR (Ha (Ac y.vn 0 y.ve)) (eG c.E a))*2 ^ GQ=_ from m1,cj (gv v),←show gv (BR (Ac y.vn 0 y.ve) v)*2 ^ GQ=_ from m2,←fk,←cz] at hd
  have d1:=EF hd.1
  have d2:=EF hd.2
  have hn:Nr (uN (scA c.F j)) (shE (z a*y.vn) (scA c.F j - sG c.F a+y.ve)) (gv (Gm y (DU V y))) (gv (AM ps c.F c.R c.E y (scA c.F j))):=by
   rw [hbg,hB]
   unfold Nr
   by_cases hk:scA c.F j - sG c.F a+y.ve<0
   ·rw [decide_eq_true hk,AtS s0 s1]
    unfold uN
    omega
   ·rw [decide_eq_false hk,AtT]
    have ex:shE (z a*y.vn) (scA c.F j - sG c.F a+y.ve)*2 ^ (GQ - (scA c.F j).toNat)=z a*y.vn*2 ^ (65536+y.ve - sG c.F a).toNat:=by
     unfold shE
     rw [if_neg hk,ah,←al]
     congr 2
     omega
    unfold uN
    omega
  have C:=put hn
  refine fin (hpre.trans (AgJ ⟨C.z0,by have:=C.z1;omega⟩)) (by omega) C
 by_cases two:y.kind=3∨y.kind=4∨y.kind=7∨y.kind=8∨y.kind=9
 ·have hl2:y.args.length=2:=by unfold Bc at hck hcg;(repeat' split at hck) <;> omega
  obtain ⟨b,hb1⟩:∃ b,y.args[1]?=some b:=⟨_,gE (by omega)⟩
  have Ab:Dk y=b:=by unfold Dk;rw [hb1];rfl
  obtain ⟨_,_,d0,d1⟩:=hag b (gM hb1)
  obtain ⟨w,L1,C1,S1⟩:=argk 1 b hb1
  have M1:=YB (F:=c.F) s0 s1 d0 d1 A.ok.sE C1.z0 C1.z1 C1.nr
  have k11:y.kind≠11:=by omega
  by_cases k7:y.kind=7
  ·have hB:Gm y (DU V y)=BR v w:=by unfold Gm;simp [k7,L0,L1]
   have hpre:FE ps c.F inn y (scA c.F j) z=scl (z a*z b) (scA c.F j - sG c.F a - sG c.F b):=by unfold FE;rw [if_neg k0,if_neg k1,if_neg k6,if_pos k7,Aa,Ab]
   have hbe:AM ps c.F c.R c.E y (scA c.F j)=Du (Du (Du (BR (DA (rG c.R a)) (eG c.E b)) (BR (DA (rG c.R b)) (eG c.E a))) (BR (eG c.E a) (eG c.E b))) (ixP (decide (scA c.F j - sG c.F a - sG c.F b<0)) (scA c.F j)):=by unfold AM;simp [k7,Aa,Ab]
   have sE:=fun a=>Eo A.ok.sE a
   have sM:=fun a=>Pg (UH A.ok.sR a)
   have q1:∀ a b,Sm (BR (DA (rG c.R a)) (eG c.E b)) 8192 8192:=fun a b=>Sm.mul (sM a) (sE b) (by decide)
   have q2:∀ a b,Sm (BR (eG c.E a) (eG c.E b)) 8192 8192:=fun a b=>Sm.mul (sE a) (sE b) (by decide)
   have t1:=Sm.sum (q1 a b) (q1 b a) (by decide)
   have t2:=Sm.sum t1 ((q2 a b).more (n':=16385) (d':=8192) (by decide) (by decide)) (by decide)
   have hbg:gv (AM ps c.F c.R c.E y (scA c.F j))=gv (BR (DA (rG c.R a)) (eG c.E b))+gv (BR (DA (rG c.R b)) (eG c.E a))+gv (BR (eG c.E a) (eG c.E b))+gv (ixP (decide (scA c.F j - sG c.F a - sG c.F b<0)) (scA c.F j)):=by
    rw [hbe]
    rw [show gv (Du (Du (Du (BR (DA (rG c.R a)) (eG c.E b)) (BR (DA (rG c.R b)) (eG c.E a))) (BR (eG c.E a) (eG c.E b))) _)=_ from CL t2.le (OG s0 s1).le,show gv (Du (Du (BR (DA (rG c.R a)) (eG c.E b)) (BR (DA (rG c.R b)) (eG c.E a))) (BR (eG c.E a) (eG c.E b)))=_ from CL t1.le (q2 _ _).le,show gv (Du (BR (DA (rG c.R a)) (eG c.E b)) (BR (DA (rG c.R b)) (eG c.E a)))=_ from CL (q1 _ _).le (q1 _ _).le]
   have m0:=GZ (p:=v) (q:=w) (lT (dc S0.d S1.d) (by decide))
   have m1:=GZ (p:=DA (rG c.R a)) (q:=eG c.E b) (lT (dc (sM a).d (sE b).d) (by decide))
   have m2:=GZ (p:=DA (rG c.R b)) (q:=eG c.E a) (lT (dc (sM b).d (sE a).d) (by decide))
   have m3:=GZ (p:=eG c.E a) (q:=eG c.E b) (lT (dc (sE a).d (sE b).d) (by decide))
   have e:scA c.F j - sG c.F a - sG c.F b=(((65536 - sG c.F a - sG c.F b).toNat:Nat):Int) - ((GQ - (scA c.F j).toNat:Nat):Int):=by unfold GQ;omega
   have hfl:=AgE (z:=z a*z b) e
   have hsc:z a*z b*2 ^ (65536 - sG c.F a - sG c.F b).toNat*2 ^ GQ=z a*uN (sG c.F a)*(z b*uN (sG c.F b)):=by
    unfold uN
    rw [ah (z a*z b),←al,show z a*2 ^ (GQ - (sG c.F a).toNat)*(z b*2 ^ (GQ - (sG c.F b).toNat))=z a*z b*(2 ^ (GQ - (sG c.F a).toNat)*2 ^ (GQ - (sG c.F b).toNat)) by simp only [ah,Int.mul_left_comm],←al]
    congr 2
    unfold GQ
    omega
   have n0:=C0.nr
   have n1:=C1.nr
   unfold Nr at n0 n1
   have v0:vIn v (rG c.R a):=C0.vin
   have v1:vIn w (rG c.R b):=C1.vin
   unfold vIn at v0 v1
   have g0:gv (DA (rG c.R a))=_:=(Ij (UH A.ok.sR a)).2
   have g1:gv (DA (rG c.R b))=_:=(Ij (UH A.ok.sR b)).2
   have f1:=AjE (a:=gv v) (A:=gv (DA (rG c.R a))) (b:=z b*uN (sG c.F b) - gv w) (B:=gv (eG c.E b)) (by omega) (by omega) n1.1 n1.2
   have f2:=AjE (a:=gv w) (A:=gv (DA (rG c.R b))) (b:=z a*uN (sG c.F a) - gv v) (B:=gv (eG c.E a)) (by omega) (by omega) n0.1 n0.2
   have f3:=AjE (a:=z a*uN (sG c.F a) - gv v) (A:=gv (eG c.E a)) (b:=z b*uN (sG c.F b) - gv w) (B:=gv (eG c.E b)) n0.1 n0.2 n1.1 n1.2
   have key:∀ x X y Y:Int,x*y - X*Y=X*(y - Y)+Y*(x - X)+(x - X)*(y - Y):=fun x X y Y=>by
    simp only [Int.mul_sub,fk,cj Y x,cj Y X]
    omega
   have hk:=key (z a*uN (sG c.F a)) (gv v) (z b*uN (sG c.F b)) (gv w)
   rw [←hsc,←show gv (BR v w)*2 ^ GQ=_ from m0,←fk] at hk
   rw [←show gv (BR (DA (rG c.R a)) (eG c.E b))*2 ^ GQ=_ from m1] at f1
   rw [←show gv (BR (DA (rG c.R b)) (eG c.E a))*2 ^ GQ=_ from m2] at f2
   rw [←show gv (BR (eG c.E a) (eG c.E b))*2 ^ GQ=_ from m3] at f3
   have hs3:(gv (BR (DA (rG c.R a)) (eG c.E b))+gv (BR (DA (rG c.R b)) (eG c.E a))+gv (BR (eG c.E a) (eG c.E b)))*2 ^ GQ=gv (BR (DA (rG c.R a)) (eG c.E b))*2 ^ GQ+gv (BR (DA (rG c.R b)) (eG c.E a))*2 ^ GQ+gv (BR (eG c.E a) (eG c.E b))*2 ^ GQ:=by rw [gx,gx]
   have d2:=EF (x:=z a*z b*2 ^ (65536 - sG c.F a - sG c.F b).toNat - gv (BR v w)) (y:=gv (BR (DA (rG c.R a)) (eG c.E b))+gv (BR (DA (rG c.R b)) (eG c.E a))+gv (BR (eG c.E a) (eG c.E b))) (by rw [hs3,hk];omega)
   have d3:=EF (x := -(gv (BR (DA (rG c.R a)) (eG c.E b))+gv (BR (DA (rG c.R b)) (eG c.E a))+gv (BR (eG c.E a) (eG c.E b)))) (y:=z a*z b*2 ^ (65536 - sG c.F a - sG c.F b).toNat - gv (BR v w)) (by rw [cz,hs3,hk];omega)
   have hn:Nr (uN (scA c.F j)) (shE (z a*z b) (scA c.F j - sG c.F a - sG c.F b)) (gv (Gm y (DU V y))) (gv (AM ps c.F c.R c.E y (scA c.F j))):=by
    rw [hbg,hB]
    unfold Nr
    by_cases hk:scA c.F j - sG c.F a - sG c.F b<0
    ·rw [decide_eq_true hk,AtS s0 s1]
     unfold uN
     omega
    ·rw [decide_eq_false hk,AtT]
     have ex:shE (z a*z b) (scA c.F j - sG c.F a - sG c.F b)*2 ^ (GQ - (scA c.F j).toNat)=z a*z b*2 ^ (65536 - sG c.F a - sG c.F b).toNat:=by
      unfold shE
      rw [if_neg hk,ah,←al]
      congr 2
      omega
     unfold uN
     omega
   have C:=put hn
   exact fin (hpre.trans (AgJ ⟨C.z0,by have:=C.z1;omega⟩)) (by omega) C
  have g0:(mvP c.F c.E (scA c.F j) a).2≤GQ:=(GX s0 s1 A.ok.sE a).le
  have g1:(mvP c.F c.E (scA c.F j) b).2≤GQ:=(GX s0 s1 A.ok.sE b).le
  unfold Nr at M0 M1
  have hU:0<uN (scA c.F j):=Bg _
  rcases (show y.kind=3∨y.kind=4∨y.kind=8∨y.kind=9 by omega) with q|q|q|q
  ·refine fin (m:=scl (z a) (scA c.F j - sG c.F a)+scl (z b) (scA c.F j - sG c.F b)) (by unfold FE;simp [q,Aa,Ab]) k11 (put ?_)
   rw [show Gm y (DU V y)=Du v w by unfold Gm;simp [q,L0,L1],show AM ps c.F c.R c.E y (scA c.F j)=Du (mvP c.F c.E (scA c.F j) a) (mvP c.F c.E (scA c.F j) b) by unfold AM;simp [q,Aa,Ab],show gv (Du v w)=_ from CL S0.le S1.le,show gv (Du (mvP c.F c.E (scA c.F j) a) (mvP c.F c.E (scA c.F j) b))=_ from CL g0 g1]
   unfold Nr
   rw [gx]
   omega
  ·refine fin (m:=scl (z a) (scA c.F j - sG c.F a) - scl (z b) (scA c.F j - sG c.F b)) (by unfold FE;simp [q,Aa,Ab]) k11 (put ?_)
   rw [show Gm y (DU V y)=Du v (GF w) by unfold Gm;simp [q,L0,L1],show AM ps c.F c.R c.E y (scA c.F j)=Du (mvP c.F c.E (scA c.F j) a) (mvP c.F c.E (scA c.F j) b) by unfold AM;simp [q,Aa,Ab],show gv (Du v (GF w))=_ from CL S0.le S1.le,show gv (GF w)=_ from EE _,show gv (Du (mvP c.F c.E (scA c.F j) a) (mvP c.F c.E (scA c.F j) b))=_ from CL g0 g1]
   unfold Nr
   rw [fk]
   omega
  ·refine fin (m:=min (scl (z a) (scA c.F j - sG c.F a)) (scl (z b) (scA c.F j - sG c.F b))) (by unfold FE;simp [q,Aa,Ab]) k11 (put ?_)
   rw [show Gm y (DU V y)=Pb v w by unfold Gm;simp [q,L0,L1],show AM ps c.F c.R c.E y (scA c.F j)=Fw (mvP c.F c.E (scA c.F j) a) (mvP c.F c.E (scA c.F j) b) by unfold AM;simp [q,Aa,Ab],show gv (Pb v w)=_ from Gb S0.le S1.le,show gv (Fw (mvP c.F c.E (scA c.F j) a) (mvP c.F c.E (scA c.F j) b))=_ from Dl g0 g1]
   unfold Nr
   rw [AgF hU]
   omega
  ·refine fin (m:=max (scl (z a) (scA c.F j - sG c.F a)) (scl (z b) (scA c.F j - sG c.F b))) (by unfold FE;simp [q,Aa,Ab]) k11 (put ?_)
   rw [show Gm y (DU V y)=Fw v w by unfold Gm;simp [q,L0,L1],show AM ps c.F c.R c.E y (scA c.F j)=Fw (mvP c.F c.E (scA c.F j) a) (mvP c.F c.E (scA c.F j) b) by unfold AM;simp [q,Aa,Ab],show gv (Fw v w)=_ from Dl S0.le S1.le,show gv (Fw (mvP c.F c.E (scA c.F j) a) (mvP c.F c.E (scA c.F j) b))=_ from Dl g0 g1]
   unfold Nr
   rw [Yy hU]
   omega
 have g0:(mvP c.F c.E (scA c.F j) a).2≤GQ:=(GX s0 s1 A.ok.sE a).le
 have hU:0<uN (scA c.F j):=Bg _
 by_cases k11:y.kind=11
 ·have sv:=hsv (by omega)
  have su:=hsu k11
  have hrw:(inK (scA c.F j - sG c.F (Bi y))=true∧rwB y.vn y.ve (scA c.F j)=true)∧rwB y.un y.ue (scA c.F j)=true:=by
   unfold RC at hsh
   rw [if_neg k0,if_neg k1,if_neg k6,if_neg (by omega),if_neg k2,if_pos k11,aj,aj] at hsh
   exact hsh
  have RV:=(NQ s0 s1 hrw.1.2).1
  have RU:=(NQ s0 s1 hrw.2).1
  have slo:=Ff (FA y.vn y.ve (scA c.F j))
  have shi:=Ff (FA y.un y.ue (scA c.F j))
  have hpre:FE ps c.F inn y (scA c.F j) z=max (scl (z a) (scA c.F j - sG c.F a)) (DM y.vn y.ve (scA c.F j)):=by unfold FE;simp [k11,Aa]
  have hB:Gm y (DU V y)=Pb (Fw v (Ac y.vn 0 y.ve)) (Ac y.un 0 y.ue):=by unfold Gm;simp [k11,L0]
  have hbe:AM ps c.F c.R c.E y (scA c.F j)=Fw (mvP c.F c.E (scA c.F j) a) (ixP (!BS y.vn y.ve (scA c.F j) || !BS y.un y.ue (scA c.F j)) (scA c.F j)):=by unfold AM;simp [k11,Aa]
  have gm:gv (Fw v (Ac y.vn 0 y.ve))=_:=Dl S0.le (Ef sv).le
  have sx:(Fw v (Ac y.vn 0 y.ve)).2≤GQ:=(Sm.max S0 (Ef sv)).le
  have ge:gv (Gm y (DU V y))=min (max (gv v) (gv (Ac y.vn 0 y.ve))) (gv (Ac y.un 0 y.ue)):=by rw [hB,show gv (Pb (Fw v (Ac y.vn 0 y.ve)) (Ac y.un 0 y.ue))=_ from Gb sx (Ef su).le,gm]
  have gb:gv (AM ps c.F c.R c.E y (scA c.F j))=max (gv (mvP c.F c.E (scA c.F j) a)) (gv (ixP (!BS y.vn y.ve (scA c.F j) || !BS y.un y.ue (scA c.F j)) (scA c.F j))):=by rw [hbe];exact Dl g0 (OG s0 s1).le
  have ixb:∀ b1 b2:Bool,gv (ixP b1 (scA c.F j))≤gv (ixP (b1 || b2) (scA c.F j))∧gv (ixP b2 (scA c.F j))≤gv (ixP (b1 || b2) (scA c.F j)):=fun b1 b2=>by
   cases b1 <;> cases b2 <;> simp only [Bool.or_false,Bool.or_true,AtS s0 s1,AtT] <;> omega
  have hix:=ixb (!BS y.vn y.ve (scA c.F j)) (!BS y.un y.ue (scA c.F j))
  have hcell:GJ ps c.F inn y (scA c.F j) z=min (max (scl (z a) (scA c.F j - sG c.F a)) (DM y.vn y.ve (scA c.F j))) (DM y.un y.ue (scA c.F j)):=by unfold GJ;rw [if_pos k11,hpre]
  rw [hcell,hpre]
  constructor
  ·refine put ?_
   rw [ge,gb]
   unfold Nr at M0 RV RU ⊢
   rw [AgF hU,Yy hU]
   omega
  ·have hf2:LM (Du (rG c.R (Bi y)).2 (eG c.E (Bi y))) (scA c.F j)=true:=by
    unfold Ajg at hf
    have:=(Bool.and_eq_true_iff.1 hf).2
    rw [decide_eq_true k11] at this
    simpa using this
   rw [Aa,Aad (Sm.sum (UH A.ok.sR a).s2 (Eo A.ok.sE a) (by decide)) (by decide) s0 s1,decide_eq_true_eq,show gv (Du (rG c.R a).2 (eG c.E a))=_ from CL (UH A.ok.sR a).s2.le (Eo A.ok.sE a).le] at hf2
   have e1:(2:Int) ^ GQ=uN (scA c.F j)*2 ^ (scA c.F j).toNat:=by
    unfold uN
    rw [←al]
    congr 1
    unfold GQ
    omega
   rw [e1,←ah] at hf2
   have h2:gv (rG c.R a).2+gv (eG c.E a)≤2147483647*uN (scA c.F j):=gc hf2 (Bg _)
   have hn:=C0.nr
   have hvn:vIn v (rG c.R a):=C0.vin
   unfold Nr at hn
   unfold vIn at hvn
   have hfl:=Aav (z:=z a) (k:=scA c.F j - sG c.F a) (a:=GQ - (scA c.F j).toNat) (b:=GQ - (sG c.F a).toNat) (by unfold GQ;omega) (.inr ⟨by have:=C0.z0;omega,by have:=C0.z1;omega⟩)
   have h3:scl (z a) (scA c.F j - sG c.F a)*uN (scA c.F j)≤2147483647*uN (scA c.F j):=by
    have hn2:z a*uN (sG c.F a) - gv v≤gv (eG c.E a):=hn.2
    unfold uN at *
    omega
   have h4:=gc h3 hU
   exact decide_eq_true (by omega)
 unfold Nr at M0
 rcases (show y.kind=5∨y.kind=10 by omega) with q|q
 ·refine fin (m := -scl (z a) (scA c.F j - sG c.F a)) (by unfold FE;simp [q,Aa]) k11 (put ?_)
  rw [show Gm y (DU V y)=GF v by unfold Gm;simp [q,L0],show AM ps c.F c.R c.E y (scA c.F j)=mvP c.F c.E (scA c.F j) a by unfold AM;simp [q,Aa],show gv (GF v)=_ from EE _]
  unfold Nr
  rw [cz]
  omega
 ·refine fin (m:=max (scl (z a) (scA c.F j - sG c.F a)) (-scl (z a) (scA c.F j - sG c.F a))) (by unfold FE;simp [q,Aa]) k11 (put ?_)
  rw [show Gm y (DU V y)=Ha v by unfold Gm;simp [q,L0],show AM ps c.F c.R c.E y (scA c.F j)=mvP c.F c.E (scA c.F j) a by unfold AM;simp [q,Aa],show gv (Ha v)=_ from Nq _]
  unfold Nr
  rw [Yy hU,cz]
  omega
end
def Ry:∀ {l:List Int},(∀ x∈l,x=0)→Ak l=0
 | [],_=>rfl
 | x::l,h=>by
  unfold Ak
  rw [if_pos (h x (fd ..))]
  exact Ry fun y hy=>h y (ek _ hy)
section
variable {ps:List Prt} {bs:List Bk} {os inn cs:List Int} {st:List (Int × Nat)}
def AjF (he:AO ps bs os=0) {j:Nat} {y:Bk} (hy:bs[j]?=some y) (hk:y.kind=2):∃ a:Int,y.args[0]?=some a∧0≤a∧a<bs.length∧Aiv bs j=a.toNat∧Bi (PQ bs j)=a:=by
 have hac:=Co he hy
 have hck:=hac.2.1
 have hl:y.args.length=1:=by rw [hk] at hck;simp [Bc] at hck;omega
 obtain ⟨a,ha⟩:∃ a,y.args[0]?=some a:=⟨_,gE (by omega)⟩
 have h1:=hac.2.2 a (gM ha)
 rw [show Cy ps.length bs.length y.kind=bs.length from if_neg (by omega)] at h1
 exact ⟨a,ha,h1.1,h1.2,by unfold Aiv;rw [hy,bo,bd,ha];rfl,by rw [CX hy];unfold Bi;rw [ha];rfl⟩
end
section
variable {ps:List Prt} {bs:List Bk} {os:List Int} {c:Ct}
def Apm (A:GI ps bs os c):HM ps bs c.F=0:=by
 have h1:c.F.length=bs.length:=A.ok.lF
 have h2:c.F.all HJ=true:=List.all_eq_true.2 fun z hz=>by
  obtain ⟨j,hj⟩:=di hz
  have hjl:=(gS.1 hj).1
  obtain ⟨y,hy⟩:∃ y,bs[j]?=some y:=⟨_,gE (by omega)⟩
  obtain ⟨_,_,_,_,s0,s1⟩:=A.parts hy
  have e:scA c.F j=z:=by unfold scA;rw [hj];rfl
  rw [e] at s0 s1
  exact decide_eq_true ⟨s0,s1⟩
 have h3:Ak ((List.range bs.length).map (LF bs c.F))=0:=Ry fun x hx=>by
  obtain ⟨j,hj,rfl⟩:=List.mem_map.1 hx
  obtain ⟨y,hy⟩:∃ y,bs[j]?=some y:=⟨_,gE (List.mem_range.1 hj)⟩
  have hk:=Cw hy
  have hsh:=Xc A hy
  unfold LF RN Aiq
  rw [hk,CX hy]
  unfold RC rwB at hsh
  by_cases q1:y.kind=1
  ·rw [if_pos (.inl q1)]
   rw [if_neg (by omega),if_pos q1] at hsh
   exact of_decide_eq_true hsh
  by_cases q2:y.kind=2
  ·rw [if_pos (.inr q2)]
   rw [if_neg (by omega),if_neg q1,if_neg (by omega),if_neg (by omega),if_pos q2,aj] at hsh
   exact of_decide_eq_true hsh.2
  rw [if_neg (by omega)]
  by_cases q3:y.kind=11
  ·rw [if_pos q3]
   rw [if_neg (by omega),if_neg q1,if_neg (by omega),if_neg (by omega),if_neg q2,if_pos q3,aj,aj] at hsh
   rw [if_pos (of_decide_eq_true hsh.1.2)]
   exact of_decide_eq_true hsh.2
  ·rw [if_neg q3]
 have ok:∀ {a b:Int},inK a=true→inK b=true→decide (-62≤a∧a≤30 ∧ -62≤b∧b≤30)=true:=fun h1 h2=>by
  have h1:=of_decide_eq_true h1
  have h2:=of_decide_eq_true h2
  exact decide_eq_true ⟨h1.1,h1.2,h2.1,h2.2⟩
 have z:inK 0=true:=by decide
 have h4:(Cr ps bs c.F).all Ais=true:=List.all_eq_true.2 fun x hx=>by
  unfold Cr at hx
  rcases List.mem_append.1 hx with hx|hx
  ·rcases List.mem_append.1 hx with hx|hx
   ·obtain ⟨j,hj,hx⟩:=List.mem_flatMap.1 hx
    obtain ⟨hjl,hjk⟩:=Lh hj
    obtain ⟨y,hy⟩:∃ y,bs[j]?=some y:=⟨_,gE hjl⟩
    have hsh:=Xc A hy
    have k2:y.kind≠2:=by rw [←Cw hy];exact hjk
    have hac:=Co A.he hy
    have hck:=hac.2.1
    have hcg:=hac.1
    unfold Fv at hx
    rw [CX hy] at hx
    dsimp only at hx
    unfold RC at hsh
    by_cases k0:y.kind=0
    ·rw [if_pos k0] at hx hsh
     obtain rfl:=List.mem_singleton.1 hx
     exact ok hsh z
    rw [if_neg k0] at hx hsh
    by_cases k1:y.kind=1
    ·rw [if_pos k1] at hx
     obtain rfl:=List.mem_singleton.1 hx
     exact ok z z
    rw [if_neg k1] at hx hsh
    by_cases k6:y.kind=6
    ·rw [if_pos k6] at hx hsh
     obtain rfl:=List.mem_singleton.1 hx
     exact ok hsh z
    rw [if_neg k6] at hx hsh
    by_cases k7:y.kind=7
    ·rw [if_pos k7] at hx hsh
     obtain rfl:=List.mem_singleton.1 hx
     exact ok hsh z
    rw [if_neg k7] at hx hsh
    rw [if_neg k2] at hsh
    by_cases k11:y.kind=11
    ·rw [if_pos k11] at hx hsh
     rw [aj,aj] at hsh
     simp only [bz,ce,or_false] at hx
     rcases hx with rfl|rfl
     ·exact ok hsh.1.1 z
     ·exact ok z z
    rw [if_neg k11] at hx hsh
    have hl1:1≤y.args.length:=by unfold Bc at hck hcg;(repeat' split at hck) <;> omega
    have hall:=List.all_eq_true.1 hsh
    have m0:Bi y∈y.args:=by
     obtain ⟨a,ha⟩:∃ a,y.args[0]?=some a:=⟨_,gE (by omega)⟩
     unfold Bi
     rw [ha]
     exact gM ha
    by_cases hl2:y.args.length=2
    ·rw [if_pos hl2] at hx
     have m1:Dk y∈y.args:=by
      obtain ⟨a,ha⟩:∃ a,y.args[1]?=some a:=⟨_,gE (by omega)⟩
      unfold Dk
      rw [ha]
      exact gM ha
     obtain rfl:=List.mem_singleton.1 hx
     exact ok (hall _ m0) (hall _ m1)
    ·rw [if_neg hl2] at hx
     obtain rfl:=List.mem_singleton.1 hx
     exact ok (hall _ m0) z
   ·obtain ⟨j,hj,rfl⟩:=List.mem_map.1 hx
    obtain ⟨hjl,hjk⟩:=My.1 hj
    obtain ⟨y,hy⟩:∃ y,bs[j]?=some y:=⟨_,gE hjl⟩
    have hsh:=Xc A hy
    have k2:y.kind=2:=by rw [←Cw hy];exact hjk
    unfold RC at hsh
    rw [if_neg (by omega),if_neg (by omega),if_neg (by omega),if_neg (by omega),if_pos k2,aj] at hsh
    have h5:=hsh.1
    rw [←CX hy] at h5
    exact ok h5 z
  ·obtain ⟨j,hj,rfl⟩:=List.mem_map.1 hx
   exact ok z z
 unfold HM
 rw [if_neg (not_not_intro h1),if_neg (not_not_intro h2),if_neg (not_not_intro h3),if_pos h4]
structure AtU (bs:List Bk) (c:Ct) (cs:List Int) (st:List Pq):Prop where
 cok:Alw bs c.F cs
 sok:ApC bs st
 dl:∀ k j:Nat,(AI bs)[k]?=some j→∃ (z:Int) (v:Pq),cs[j]?=some z∧st[k]?=some v∧GK c j z v
def AgL (A:GI ps bs os c) {j:Nat} {y:Bk} (hy:bs[j]?=some y) (k2:y.kind=2):Dn y.vn y.ve∧rwB y.vn y.ve (scA c.F j)=true ∧
  (∀ v,gv v=gv (Ac y.vn 0 y.ve)→vIn v (c.R[j]?.getD iZ))∧(∀ v,vIn v (rG c.R (Bi y))→vIn v (c.R[j]?.getD iZ)) ∧
  gv (AM ps c.F c.R c.E y (scA c.F j))=max (gv (mvP c.F c.E (scA c.F j) (Bi y))) (gv (ixP (!BS y.vn y.ve (scA c.F j)) (scA c.F j))):=by
 obtain ⟨_,_,_,_,s0,s1⟩:=A.parts hy
 have hsh:=Xc A hy
 unfold RC at hsh
 rw [if_neg (by omega),if_neg (by omega),if_neg (by omega),if_neg (by omega),if_pos k2,aj] at hsh
 have hsc:=(NQ s0 s1 hsh.2).2
 have sv:=(Ef hsc).more (n':=LB) (d':=LB) (by decide) (by decide)
 have hri:LL ps c.R y=Lo (Ac y.vn 0 y.ve,Ac y.vn 0 y.ve) (rG c.R (Bi y)):=by unfold LL;rw [if_pos k2]
 have ip:=IwS.pt sv
 have ir:=UH A.ok.sR (Bi y)
 obtain ⟨g1,g2⟩:=Afr ip ir
 have hin:∀ v,(min (gv (Ac y.vn 0 y.ve)) (gv (rG c.R (Bi y)).1)≤gv v∧gv v≤max (gv (Ac y.vn 0 y.ve)) (gv (rG c.R (Bi y)).2))→vIn v (c.R[j]?.getD iZ):=fun v hv =>
  A.rng hy hri ((ip.hull ir).more (by decide) (by decide)) ⟨by rw [g1];exact hv.1,by rw [g2];exact hv.2⟩
 refine ⟨hsc,hsh.2,fun v hv=>hin v ?_,fun v hv=>hin v ?_,?_⟩
 ·rw [hv];omega
 ·have h1:=hv.1
  have h2:=hv.2
  omega
 ·rw [show AM ps c.F c.R c.E y (scA c.F j)=Fw (mvP c.F c.E (scA c.F j) (Bi y)) (ixP (!BS y.vn y.ve (scA c.F j)) (scA c.F j)) by unfold AM;simp [k2]]
  exact Dl (GX (F:=c.F) s0 s1 A.ok.sE (Bi y)).le (OG s0 s1).le
def AbU (A:GI ps bs os c):AtU bs c (CD bs c.F) (CN bs):=⟨Alw.init _ _,Nu A.he,fun k j hj=>by
 obtain ⟨hjl,hjk⟩:=GE hj
 obtain ⟨y,hy⟩:∃ y,bs[j]?=some y:=⟨_,gE hjl⟩
 have k2:y.kind=2:=by rw [←Cw hy];exact hjk
 obtain ⟨_,_,_,_,s0,s1⟩:=A.parts hy
 obtain ⟨hsc,hrw,hv,_,hb⟩:=AgL A hy k2
 refine ⟨DM y.vn y.ve (scA c.F j),Ac y.vn 0 y.ve,?_,ZK hj hy,A.cell_of hy (hv _ rfl) (YD (NQ s0 s1 hrw).1 (by rw [hb];omega))⟩
 unfold CD
 rw [ja,dn (by rw [Fu];exact hjl),HG hjl,if_pos hjk]
 unfold Ev
 rw [if_pos (.inr (.inl hjk))]
 unfold Nh
 rw [CX hy]⟩
end
section
variable {ps:List Prt} {bs:List Bk} {os inn cs:List Int} {st:List Pq} {c:Ct}
def AgM (A:GI ps bs os c) (S:AtU bs c cs st) (hi:Wc ps inn=true) (hil:inn.length=ps.length) (ht:Mo ps bs st inn=0) :
  (stL ps bs c.F inn cs).2=false∧∀ (a:Int),0≤a→a<bs.length→∃ v,(RB ps bs st inn)[a.toNat]?=some v∧GK c a.toNat (zC bs cs (stL ps bs c.F inn cs).1 a) v:=by
 have hC:=S.cok
 have hsl:=S.sok.len
 have hsn:=S.sok.nf
 have hc:=Apm A
 have hV:=AeT A.he hsl hsn ht
 have del:∀ a:Int,0≤a→a<bs.length→AK bs a.toNat=2→∃ v,(RB ps bs st inn)[a.toNat]?=some v∧GK c a.toNat (zC bs cs (stL ps bs c.F inn cs).1 a) v:=fun a a0 a1 h2=>by
  obtain ⟨k,hk⟩:=di (My.2 ⟨by omega,h2⟩)
  obtain ⟨z,v,hz,hst,hcell⟩:=S.dl k _ hk
  refine ⟨v,by rw [AeS hsl hk,hst],?_⟩
  unfold zC Acg
  rw [if_pos h2,hz]
  exact hcell
 have key:∀ k,k≤(Bn bs).length→(stK ps bs c.F inn cs k).2=false∧∀ i∈(Bn bs).take k,∃v,(RB ps bs st inn)[i]?=some v∧GK c i (zC bs cs (stL ps bs c.F inn cs).1 (i:Int)) v:=by
  intro k
  induction k with
  | zero=>exact fun _=>⟨rfl,fun i hi=>by simp at hi⟩
  | succ k ih =>
   intro hk
   obtain ⟨hfl,ih⟩:=ih (by omega)
   obtain ⟨j,hj⟩:∃ j,(Bn bs)[k]?=some j:=⟨_,gE (by omega)⟩
   obtain ⟨hjl,hjk⟩:=Lh (gM hj)
   obtain ⟨y,hy⟩:∃ y,bs[j]?=some y:=⟨_,gE hjl⟩
   have hyk:=Cw hy
   have hk2:y.kind≠2:=by rw [←hyk];exact hjk
   obtain ⟨b1,b2⟩:=Apj (inn:=inn) A.he hc hC (by omega) hj hy
   have hsplit:Bn bs=(Bn bs).take k++j::(Bn bs).drop (k+1):=by
    exact Alx
   obtain ⟨hcell,hsh⟩:=A.cell hy hk2 (inn:=inn) hi hil (z:=zC bs cs (stL ps bs c.F inn cs).1) hV fun k0 a ha=>by
    have h1:=(Co A.he hy).2.2 a ha
    rw [show Cy ps.length bs.length y.kind=bs.length from if_neg k0] at h1
    have hpr:Lk bs j=y.args:=by unfold Lk Su;rw [hyk,if_neg k0,hy];rfl
    by_cases h2:AK bs a.toNat=2
    ·exact del a h1.1 h1.2 h2
    ·have:=ih a.toNat ((Nd hsplit (a:=a) (by rw [hpr];exact ha)).resolve_left h2)
     rwa [show ((a.toNat:Nat):Int)=a by omega] at this
   obtain ⟨b3,b4⟩:=b2 hsh
   refine ⟨by rw [b1,hfl,hsh];rfl,fun i hi2=>?_⟩
   rw [aq,hj,eb,eo,jc] at hi2
   rcases hi2 with hi2|rfl
   ·exact ih i hi2
   have hmem:i∈(Bn bs).take (k+1):=by rw [aq,hj];simp
   have he:zC bs cs (stL ps bs c.F inn cs).1 (i:Int)=GJ ps c.F inn y (scA c.F i) (zC bs cs (stL ps bs c.F inn cs).1):=by
    conv=>lhs;unfold zC Acg
    rw [ao,if_neg hjk,Aax (show k+1≤(Bn bs).length by omega) hmem,b3]
    rfl
   exact ⟨_,AeR A.he hsl hsn ht hy hk2,by rw [he];exact hcell⟩
 obtain ⟨k1,k2⟩:=key _ (aa _)
 refine ⟨k1,fun a a0 a1=>?_⟩
 by_cases h2:AK bs a.toNat=2
 ·exact del a a0 a1 h2
 ·have:=k2 a.toNat (by rw [au];exact Uh (Lz A.he).2.2 (by omega) h2)
  rwa [show ((a.toNat:Nat):Int)=a by omega] at this
def AgN (A:GI ps bs os c) (S:AtU bs c cs st) (hi:Wc ps inn=true) (hil:inn.length=ps.length) (ht:Mo ps bs st inn=0) :
  (GM inn (Cr ps bs c.F) cs).2=false∧AtU bs c (GM inn (Cr ps bs c.F) cs).1 (FH ps bs st inn) ∧
  ∀ (o:Nat) (y:Bk),bs[o]?=some y→∃ (z:Int) (v:Pq),(if y.kind=2 then cs[o]? else (GM inn (Cr ps bs c.F) cs).1[o]?)=some z∧(RB ps bs st inn)[o]?=some v∧GK c o z v:=by
 obtain ⟨r1,r2,r3,r4⟩:=Apk (inn:=inn) A.he (Apm A) S.cok
 obtain ⟨hfl,hv⟩:=AgM A S hi hil ht
 have hzr:=fun (a:Int)=>UR (a:=a) S.cok (V:=(stL ps bs c.F inn cs).1) (Ru _) (IE S.cok.short _)
 have dl:∀ (j:Nat) (y:Bk),bs[j]?=some y→y.kind=2→∃ v,(RB ps bs st inn)[Aiv bs j]?=some v∧GK c j (nxC bs c.F cs (stL ps bs c.F inn cs).1 j) v:=fun j y hy hk=>by
  obtain ⟨a,ha0,a0,a1,hz,ha⟩:=AjF A.he hy hk
  obtain ⟨v,hva,C⟩:=hv a a0 a1
  obtain ⟨_,_,_,_,s0,s1⟩:=A.parts hy
  obtain ⟨_,_,_,hr,hb⟩:=AgL A hy hk
  have Aa:Bi y=a:=by rw [←CX hy];exact ha
  rw [Aa] at hr hb
  have hg:=(AgK A hy (by omega) a (gM ha0)).2.2
  refine ⟨v,by rw [hz];exact hva,?_⟩
  unfold nxC
  rw [ha]
  exact A.cell_of hy (hr v C.vin) (YD (YB (F:=c.F) s0 s1 hg.1 hg.2 A.ok.sE C.z0 C.z1 C.nr) (by rw [hb];omega))
 have hov:(GM inn (Cr ps bs c.F) cs).2=false:=r1.2 ⟨hfl,fun j hj=>by
  obtain ⟨hjl,hjk⟩:=My.1 hj
  obtain ⟨y,hy⟩:∃ y,bs[j]?=some y:=⟨_,gE hjl⟩
  obtain ⟨v,_,C⟩:=dl j y hy (by rw [←Cw hy];exact hjk)
  exact decide_eq_true ⟨C.z0,by have:=C.z1;omega⟩⟩
 refine ⟨hov,⟨r4,AnQ A.he S.sok.len S.sok.nf ht,fun k j hj=>?_⟩,fun o y hy=>?_⟩
 ·obtain ⟨hjl,hjk⟩:=GE hj
  obtain ⟨y,hy⟩:∃ y,bs[j]?=some y:=⟨_,gE hjl⟩
  obtain ⟨v,h1,C⟩:=dl j y hy (by rw [←Cw hy];exact hjk)
  exact ⟨_,v,r3 hov j (gM hj),by rw [AeU hj,h1];rfl,C⟩
 ·have hol:=(gS.1 hy).1
  obtain ⟨v,h1,C⟩:=hv (o:Int) (by omega) (by omega)
  obtain ⟨hb,_,_⟩:=hzr (o:Int) (by omega) (by omega)
  rw [ao] at h1 C hb
  refine ⟨_,v,?_,h1,C⟩
  unfold Acg at hb
  by_cases hk:y.kind=2
  ·rw [if_pos hk]
   rwa [if_pos (by rw [Cw hy];exact hk)] at hb
  ·have hok:AK bs o≠2:=by rw [Cw hy];exact hk
   rw [if_neg hk]
   rw [if_neg hok] at hb
   exact (r2 o hol hok).trans hb
end
def AtV (s z:Int) (v:Pq):Pq:=Ha (Du (Ac z 0 (-s)) (GF v))
def AtW (s0:0≤s) (s1:s≤30) (z0 : -2147483648≤z) (z1:z<2147483648):Sm (Ac z 0 (-s)) 300 200∧gv (Ac z 0 (-s))=z*uN s:=by
 have sm:Sm (Ac z 0 (-s)) 300 200:=(Sm.shift (n:=32) (x:=z) (k := -s) (by omega) (by omega) (by omega)).more (by decide) (by decide)
 refine ⟨sm,?_⟩
 have h1:=Ns (p:=(z,0)) (n:=s.toNat) (by show 0+_≤GQ;unfold GQ;omega) (by omega)
 rw [show -((s.toNat:Nat):Int) = -s by omega,LJ] at h1
 refine ew (Pa s.toNat) ?_
 rw [show gv (Ac z 0 (-s))*2 ^ s.toNat=_ from h1,ah]
 unfold uN
 rw [←al]
 congr 2
 unfold GQ
 omega
def AtX {c:Ct} (ok:Aum bs c) {o:Nat} {z:Int} {v:Pq} (s0:0≤scA c.F o) (s1:scA c.F o≤30) (C:GK c o z v) (sv:Sm v LB LB):Sm (AtV (scA c.F o) z v) (LB+LB+1) LB∧Nt (AtV (scA c.F o) z v) (c.E[o]?.getD (0,0))≤0∧iIn (v,v) (c.R[o]?.getD iZ)=true:=by
 obtain ⟨sm,hg⟩:=AtW s0 s1 C.z0 C.z1
 have ss:=Sm.sum (sm.more (n':=LB) (d':=LB) (by decide) (by decide)) sv.neg (by decide)
 have so:=ss.abs
 refine ⟨so,(LI so.le (CY ok.sE o).le).2 ?_,(Atg (IwS.pt sv) (Bx ok.sR o)).2 C.vin⟩
 have e1:gv (AtV (scA c.F o) z v)=_:=Nq _
 have e2:gv (Du (Ac z 0 (-scA c.F o)) (GF v))=_:=CL sm.le sv.neg.le
 have e3:gv (GF v)=_:=EE v
 have hn:=C.nr
 unfold Nr at hn
 show gv (AtV (scA c.F o) z v)≤_
 rw [e1,e2,e3,hg]
 omega
def Mz (ls:List (List Int)):Bool:=(ls.all fun l=>decide (l.length≤40)) && decide (ls.length≤40)
def YE {ls:List (List Int)} (h:Mz ls=true):(∀ l∈ls,l.length≤40)∧ls.length≤40:=by
 unfold Mz at h
 rw [aj,decide_eq_true_eq] at h
 exact ⟨fun l hl=>of_decide_eq_true (List.all_eq_true.1 h.1 l hl),h.2⟩
def AbV (t:Bool) (ls:List (List Int)) (hn:(ls.length:Int)≤9223372036854775807):CV prog An 44 [.one (Yf t ls)] [aB (Mz ls)]:=by
 refine cvz func44 ntmps44 ?_
 repeat' (with_reducible first|refine qq ?_|(refine Tx 0 ?_;refine gO xA ?_)|(refine Tx 1 ?_;refine gO xM <| gO xN <| gO xM ?_))
 refine Bj (BK 0) (Av (fun n Fr H=>∃ k:Nat,k≤ls.length∧n=ls.length - k∧(ls.take k).all (fun l:List Int=>decide (l.length≤40))=true∧Fr=ofL [(0,vd (Yf t ls)),(5,vd (Yf t ls)),(6,vi ls.length),(7,vi ((k:Nat)))]∧H=[]) (n0:=ls.length) ⟨0,ad _,rfl,rfl,rfl,rfl⟩ ?_)
 rintro n Fr H ⟨k,hk,rfl,hall,rfl,rfl⟩
 by_cases hlt:k<ls.length
 case pos =>
  obtain ⟨l,hx⟩:∃ l,ls[k]?=some l:=⟨_,gE hlt⟩
  by_cases c1:l.length≤40
  case neg =>
   repeat' (with_reducible first|refine qq ?_|(refine Tx 2 ?_;refine gO xLt ?_)|(refine Tx 3 ?_;refine gO (xIr IO (AeV hx)) <| gO xD <| gO xA ?_)|(refine Tx 4 ?_;refine gO xM <| gO xN <| gO xGt ?_)|(refine Tx 5 ?_;refine gO xA ?_))
   exact AH rfl (.cons_ (Fi rfl (by unfold Mz;rw [AfE hx (decide_eq_false (by omega)),gz])) .nil_)
  repeat' (with_reducible first|refine qq ?_|(refine Tx 2 ?_;refine gO xLt ?_)|(refine Tx 3 ?_;refine gO (xIr IO (AeV hx)) <| gO xD <| gO xA ?_)|(refine Tx 4 ?_;refine gO xM <| gO xN <| gO xGt ?_)|(refine Tx 6 ?_;refine gO xAd <| gO xM ?_))
  refine ⟨_,_,BK 0,_,by omega,k+1,by omega,rfl,MW hx hall (decide_eq_true c1),rfl,rfl⟩
 obtain rfl:k=ls.length:=by omega
 rw [au] at hall
 by_cases c3:ls.length≤40
 case pos =>
  repeat' (with_reducible first|refine qq ?_|(refine Tx 2 ?_;refine gO xLt ?_)|(refine Tx 7 ?_;refine gO xM <| gO xN <| gO xLe <| gO xA ?_))
  exact AH rfl (.cons_ (Fi rfl (by unfold Mz;rw [hall,decide_eq_true c3];rfl)) .nil_)
 case neg =>
  repeat' (with_reducible first|refine qq ?_|(refine Tx 2 ?_;refine gO xLt ?_)|(refine Tx 7 ?_;refine gO xM <| gO xN <| gO xLe <| gO xA ?_))
  exact AH rfl (.cons_ (Fi rfl (by unfold Mz;rw [hall,decide_eq_false c3];rfl)) .nil_)
def AlA (k:p') (h:Hd9 p'→p:=by with_reducible first|(intro Z9;refine Tx 8 ?_;refine gO (xIr IO (AeV hx)) <| gO xD <| gO xA ?_;exact Z9.o)|(intro Z9;refine Tx 9 ?_;refine gO xL <| gO xM <| gO (xCl func114 (FT)) <| gO xA ?_;exact Z9.o)|(intro Z9;refine Tx 10 ?_;refine gO xL <| gO xM <| gO xM <| gO (xCl func54 (ST)) <| gO xMt <| gO xEx <| gO xEx <| gO xEx <| gO xA <| gO xA <| gO xA ?_;exact Z9.o)|fail):p:=h ⟨k⟩
def AgO (h:p:=by first|exact xIr Af (AG hzr)|exact xIr Af (AG hz)|exact xIr Af (AG hFi)|exact xIr Af (Ug hw)|exact xIr Af (hEi)|exact xIr Af (hRi)):p:=h
def AgP (h:p:=by first|exact xIr Ah (Ug hw)|exact xIr Ah (hEi)|exact xIr Ah (hRi)):p:=h
def AlB (k:p') (h:Hd9 p'→p:=by with_reducible first|(intro Z9;refine Tx 18 ?_;refine gO xM <| gO (by first|exact xIr Al (Fb hy)|exact xIr Al (Ug hw)|exact xIr Al (hEi)|exact xIr Al (hRi)) <| gO xL <| gN (xAl Cm) <| gO xA <| gZ (xSk BW) ?_;exact Z9.o)|(intro Z9;refine Tx 19 ?_;refine gO xF <| gO xD <| gO xM <| gO AgO <| gO xD <| gO xA ?_;exact Z9.o)|(intro Z9;refine Tx 20 ?_;refine gO xF <| gO xD <| gO xEq ?_;exact Z9.o)|(intro Z9;refine AE (id:=22) 16 AN (by kernel_rfl) ?_;dsimp only [List.take,List.drop];refine gP xM <| gP (xCl func39 (OF.cv)) <| gP xF <| gP xD <| gP xM <| gP AgO <| gP xD <| gP EG <| gP (xCl func38 (SH.cv)) <| gP xM <| gP xM <| gP AgP <| gP xL <| gP (xCl func42 (SB.cv)) <| gP (xCl func101 (AB.cv)) <| gQ (xAl Ao) ?_;refine Ke ?_;refine gZ (xSk Ad) ?_;exact Z9.o)|(intro Z9;refine BU (id:=23) AN (by kernel_rfl) ?_;refine gP xL <| gP xF <| gP xD <| gP xM <| gP AgP <| gP xL <| gP (xCl func29 (CM.cv)) <| gP xGt <| gP xM ?_;(first|iterate 11 refine Kd ?_|(refine Ky (xFa PD BN) ?_;refine Ky (xLd BN) ?_;refine Ky xM1 ?_;refine Ky (by first|exact xIr Aj (Ug hw)|exact xIr Aj (hEi)|exact xIr Aj (hRi)) ?_;refine Ky (xLa Ag) ?_;refine Ky xM1 ?_;refine Ky xM1 ?_;refine Ky AgP ?_;refine Ky (xLa Ad) ?_;refine Ky (xCl func116 (CT)) ?_;refine Ky EG ?_));refine gP xPk ?_;refine Ke ?_;exact Z9.o)|(intro Z9;refine Tx 25 ?_;refine gO xAd <| gO xM ?_;exact Z9.o)|fail):p:=h ⟨k⟩
def NR (h:p:=by
 exact AH rfl (.cons_ (Fi rfl (rfl)) .nil_)):p:=h
def AlC (h:p:=by
 refine ⟨_,_,RJ _ 4 ?_ ?_ ?_,_,by omega,u+1,by omega,rfl,rfl,rfl⟩
 ·rfl
 ·exact mB rfl rfl
 ·exact ⟨Db rfl,Db rfl,Db rfl,Db rfl,trivial⟩):p:=h
def AlD (h:p:=by first|assumption|omega):p:=h
def AlE (h:p:=by first|rfl|omega):p:=h
def AgQ (t v:Bool) {ps:List Prt} {bs:List Bk} {os:List Int} (hl:Fa ps bs os) (F:List Int) (qs:List (Rv × Rv)) (rs:List Rv) (hwq:∀ q∈qs,RvL q.1∧RvL q.2) (hwr:∀ r∈rs,RvL r) (h0:ckE ps bs os F qs rs=0) (A:GI ps bs os (AbB F qs rs)) (ls:List (List Int)) (hll:∀ l∈ls,l.length≤40) (hln:ls.length≤40):CV prog An 45 [aDg t ps bs os,.agg (dCr false F qs rs),.one (Yf v ls)] [aB true]:=by
 refine cvz func45 ntmps45 ?_
 obtain ⟨hd,ok,hdc,_,_⟩:=AoC hwq hwr h0
 rw [hdc]
 clear hdc h0
 generalize AbB F qs rs=c at *
 have hn:=hl.l2
 have hpn:=hl.l1
 have hlF:=ok.lF
 have hlR:=ok.lR
 have hlE:=ok.lE
 have hcp:=Apm A
 have CP:=Agn t false (F:=c.F) hl (by omega)
 have hE:Lp ps bs os c.F=0:=by unfold Lp;rw [if_pos hd];exact hcp
 rw [hE,WT rfl,WT rfl,WT rfl,WT rfl] at CP
 have hpr:=Apd (F:=c.F) hd (Agu hcp)
 have SS:=AjA false hpr
 have SC:=Wl t hl
 rw [hd,RP rfl] at SC
 unfold Akn at SC
 have sim0:=AbU A
 repeat' (with_reducible first|refine qq ?_|(refine Tx 0 ?_;refine gN xBo <| gN xBo <| gO xA ?_)|(refine Tx 1 ?_;refine gO xL <| gO xF <| gO xD <| gO (xCl func46 (CP)) <| gO xMt <| gO (by exact EO rfl rfl rfl) <| gO xEx <| gN (xAl Ol) <| gZ (xSk BB) <| gO xA ?_)|(refine Tx 2 ?_;refine gO xL <| gO (xCl func53 (SC)) <| gO xMt <| gO xEx <| gO xEx <| gO xA <| gO xA ?_)|(refine Tx 3 ?_;refine gO xL <| gO (xCl func47 (SS)) <| gO xMt <| gO xEx <| gO xEx <| gO xA <| gO xA ?_)|(refine Tx 4 ?_;refine gO xM <| gO (xNE Ai) <| gO xM ?_;(first|iterate 2 refine Jd ?_|(refine Jy xM1 ?_;refine Jy (xNE Ai) ?_));refine gO xPk <| gO xM ?_;(first|iterate 2 refine Jd ?_|(refine Jy xM1 ?_;refine Jy (xNE Ai) ?_));refine gO xPk <| gO xM ?_;(first|iterate 7 refine Jd ?_|(refine Jy (xFa PD BN) ?_;refine Jy (xLd BN) ?_;refine Jy (xLn Aj) ?_;refine Jy (xFa BO AX) ?_;refine Jy (xLd AX) ?_;refine Jy (xLn Al) ?_;refine Jy xNe ?_));refine gO xPk <| gO xM ?_;(first|iterate 7 refine Jd ?_|(refine Jy (xFa EX Aw) ?_;refine Jy (xLd Aw) ?_;refine Jy (xLn Ah) ?_;refine Jy (xFa BO AX) ?_;refine Jy (xLd AX) ?_;refine Jy (xLn Al) ?_;refine Jy xNe ?_));refine gO xPk <| gO xM ?_;(first|iterate 7 refine Jd ?_|(refine Jy (xFa TK Bm) ?_;refine Jy (xLd Bm) ?_;refine Jy (xLn Af) ?_;refine Jy (xFa BO AX) ?_;refine Jy (xLd AX) ?_;refine Jy (xLn Al) ?_;refine Jy xNe ?_));refine gO xPk ?_)|(refine Tx 6 ?_;refine gO xM <| gO xN <| gO xM ?_))
 refine Bj (BK 3) (Av (fun n Fr H=>∃ (j:Nat) (cs:List Int) (st:List Pq),j≤ls.length∧n=ls.length - j∧AtU bs c cs st∧Fr=ofL [(3,vr 0),(4,vr 1),(7,vr 2),(9,vd (.row false 3 st.length (Ay dyP st))),(11,vd (AU false cs)),(79,vd (Yf v ls)),(80,vi ls.length),(81,vi ((j:Nat)))]∧H=[.box 26 [.d (Di t ps),.d (DK t bs),.d (AU t os)],.box 30 [.d (AU false c.F),.d (.row false 6 c.R.length (Ay (dIw false) c.R)),.d (.row false 3 c.E.length (Ay dyP c.E))],.box 94 [.d (Di false ps),.d (AU false (CD bs c.F)),.d (AbZ false (Cr ps bs c.F)),.d (AU false os)]]) (n0:=ls.length) ⟨0,_,_,ad _,rfl,sim0,rfl,rfl⟩ ?_)
 clear sim0 SC CP SS
 rintro n Fr H ⟨j,cs,st,hj,rfl,S,rfl,rfl⟩
 by_cases hlt:j<ls.length
 case pos =>
  obtain ⟨x,hx⟩:∃ x,ls[j]?=some x:=⟨_,gE hlt⟩
  have hxl:=hll x (gM hx)
  have FT:=AfF t v x hl (by omega)
  have hinl:=Yg ps x
  have hT4:=AfG hd (st:=st) (l:=x)
  have hio:=AkC hd x
  have hfit:=fun k p z=>Apf (inn:=x) hpr k p z
  generalize ME ps x ps.length=ins at *
  have hsl:=S.sok.len
  have hdb:=Mp bs
  have RU:=AtN false false false hpr S.cok.len S.cok.short hinl hfit
  have ST:=Aiz t false hl (st.map EL) (fun r hr=>by obtain ⟨p,hp,rfl⟩:=List.mem_map.1 hr;exact ⟨AF _,lT ((S.sok.sm p hp).lenN 128 (by decide)) (by decide)⟩) (by rw [af];omega) ins (by omega)
  rw [Uu,ZJ,Asc hd S.sok] at ST
  unfold Akn at ST
  have hcl:=S.cok.len
  have hil:=Ld bs c.F
  by_cases hT:Mo ps bs st ins=0
  case neg =>
   have h4:=hT4 hT
   rw [h4] at ST
   have IS:=Asd 4 4
   rw [show isB 4 4=true by decide] at IS
   generalize okQ 4 (FH ps bs st ins)=Q1 at *
   generalize okQ 4 (RB ps bs st ins)=Q2 at *
   repeat' (with_reducible first|refine qq ?_|(refine Tx 7 ?_;refine gO xLt ?_)|refine AlA ?_|(refine Tx 11 ?_;refine gO xM <| gO (by first|exact Bw rfl Ai rfl (GP (by decide))|exact Bw rfl Ai rfl (Ps AlE)|exact Bw rfl Ai rfl (GP AlD)|exact Bw rfl Ai rfl rfl) ?_)|(refine Tx 12 ?_;refine gO xM <| gO (xCl func115 (IS.cv)) <| gO xA ?_))
   exact NR
  obtain ⟨hov,hS2,hout⟩:=AgN A S hio hinl hT
  rw [hT,RP rfl,RP rfl] at ST
  rw [hov] at RU
  have hve:(RB ps bs st ins).length=bs.length:=ZI
  have hvs:=AeT hd S.sok.len S.sok.nf hT
  have hrl:=hS2.cok.len
  generalize RB ps bs st ins=VV at *
  generalize FH ps bs st ins=XX at *
  generalize hRV:(GM ins (Cr ps bs c.F) cs).1=RV at *
  generalize Mx RV os=OO at *
  clear hRV hT4
  repeat' (with_reducible first|refine qq ?_|(refine Tx 7 ?_;refine gO xLt ?_)|refine AlA ?_|(refine Tx 11 ?_;refine gO xM <| gO (xNE Ai) ?_)|(refine Tx 13 ?_;refine gO xL <| gO xM <| gO xM <| gO (xCl func48 (RU)) <| gO xMt <| gO (by exact EO rfl rfl rfl) <| gO xEx <| gN (xAl Om) <| gZ (xSk Ek) <| gO xA ?_)|(refine Tx 14 ?_;refine gO xM <| gO (xNE Ai) <| gO xM ?_;(first|iterate 2 refine Jd ?_|(refine Jy (xFa QE DX) ?_;refine Jy (xLd DX) ?_));refine gO xPk <| gO xM ?_;(first|iterate 6 refine Jd ?_|(refine Jy xM1 ?_;refine Jy (xLn Ah) ?_;refine Jy (xFa BO AX) ?_;refine Jy (xLd AX) ?_;refine Jy (xLn Al) ?_;refine Jy xNe ?_));refine gO xPk <| gO xM ?_;(first|iterate 7 refine Jd ?_|(refine Jy (xFa QC Bm) ?_;refine Jy (xLd Bm) ?_;refine Jy (xLn Af) ?_;refine Jy (xFa BO AX) ?_;refine Jy (xLd AX) ?_;refine Jy (xLn Al) ?_;refine Jy xLt ?_));refine gO xPk <| gO xM ?_;(first|iterate 6 refine Jd ?_|(refine Jy xM1 ?_;refine Jy (xLn Af) ?_;refine Jy (xFa BO AX) ?_;refine Jy (xLd AX) ?_;refine Jy (xLn Al) ?_;refine Jy xLt ?_));refine gO xPk ?_)|(refine Tx 16 ?_;refine gO xF <| gO xD <| gO xN <| gO xM ?_))
  refine Bj (BK 4) (Av (fun n Fr H=>∃ u:Nat,u≤bs.length∧n=bs.length - u∧Fr=ofL [(3,vr 0),(4,vr 1),(7,vr 2),(11,vd (AU false cs)),(16,vd (.row false 3 XX.length (Ay dyP XX))),(17,vd (.row false 3 VV.length (Ay dyP VV))),(19,vr 3),(79,vd (Yf v ls)),(80,vi ls.length),(81,vi ((j:Nat))),(139,vd (DK t bs)),(140,vi bs.length),(141,vi ((u:Nat)))]∧H=[.box 26 [.d (Di t ps),.d (DK t bs),.d (AU t os)],.box 30 [.d (AU false c.F),.d (.row false 6 c.R.length (Ay (dIw false) c.R)),.d (.row false 3 c.E.length (Ay dyP c.E))],.box 94 [.d (Di false ps),.d (AU false (CD bs c.F)),.d (AbZ false (Cr ps bs c.F)),.d (AU false os)],.box 99 [.d (AU false RV),.d (AU false OO),.d (.val (.bool false))]]) (n0:=bs.length) ⟨0,ad _,rfl,rfl,rfl⟩ ?_)
  rintro n Fr H ⟨u,hu,rfl,rfl,rfl⟩
  by_cases hlu:u<bs.length
  case pos =>
   obtain ⟨y,hy⟩:∃ y,bs[u]?=some y:=⟨_,gE hlu⟩
   obtain ⟨z,w,hz,hw,C⟩:=hout u y hy
   obtain ⟨_,_,_,_,s0,s1⟩:=A.parts hy
   have sw:=hvs w (gM hw)
   obtain ⟨so,hcm,hin⟩:=AtX ok s0 s1 C sw
   obtain ⟨sm,_⟩:=AtW s0 s1 C.z0 C.z1
   have z0:=C.z0
   have z1:=C.z1
   have hFi:=Xh (F:=c.F) (k:=u) (by omega)
   have hEi:=AkF (E:=c.E) (k:=u) (by omega)
   have hRi:=AkG (R:=c.R) (k:=u) (by omega)
   have se:=CY ok.sE u
   have sr:=Bx ok.sR u
   unfold AtV at so hcm
   obtain ⟨zr,hzr⟩:∃ zr,RV[u]?=some zr:=⟨_,gE (by omega)⟩
   generalize c.E[u]?.getD (0,0)=e at *
   generalize c.R[u]?.getD iZ=r at *
   generalize hs:scA c.F u=s at *
   have OF:=Aea (G:=An) z (by omega) (by omega)
   have SH:=QO (G:=An) false z 0 (-s) ⟨by decide,fun h=>absurd rfl h⟩ (lT (AJ (k:=2) (by omega)) (by decide)) (by omega)
   generalize Ac z 0 (-s)=p at *
   have SB:=Ant An false false p.1 p.2 w.1 w.2 sm.ok sw.ok sm.lz sw.lz
   have ss:Sm (Ck p.1 p.2 (-w.1) w.2) (LB+LB+1) LB:=Sm.sum (sm.more (n':=LB) (d':=LB) (by decide) (by decide)) sw.neg (by decide)
   have so:Sm ((((Ck p.1 p.2 (-w.1) w.2).1.natAbs:Nat):Int),(Ck p.1 p.2 (-w.1) w.2).2) (LB+LB+1) LB:=so
   have hcm2:BM (((Ck p.1 p.2 (-w.1) w.2).1.natAbs:Nat):Int) (Ck p.1 p.2 (-w.1) w.2).2 e.1 e.2≤0:=hcm
   clear hcm
   generalize Ck p.1 p.2 (-w.1) w.2=q at *
   have AB:=Ans An false q.1 q.2 ss.ok ss.lz
   have CM:=Ua (G:=An) false false ((q.1.natAbs:Nat):Int) q.2 e.1 e.2 so.ok se.ok so.lz se.lz
   generalize BM ((q.1.natAbs:Nat):Int) q.2 e.1 e.2=m at *
   have CT:=UB r w (sr.more LBx LBx) (sw.more (by decide) (by decide))
   rw [hin] at CT
   by_cases hk:y.kind=2
   case pos =>
    rw [if_pos hk] at hz
    repeat' (with_reducible first|refine qq ?_|(refine Tx 17 ?_;refine gO xLt ?_)|refine AlB ?_|(refine Tx 21 ?_;refine gO xM <| gO xM <| gO AgO <| gO xD <| gO xA ?_))
    exact AlC
   rw [if_neg hk] at hz
   rw [hz] at hzr
   cases hzr
   repeat' (with_reducible first|refine qq ?_|(refine Tx 17 ?_;refine gO xLt ?_)|refine AlB ?_)
   exact AlC
  obtain rfl:u=bs.length:=by omega
  repeat' (with_reducible first|refine qq ?_|(refine Tx 17 ?_;refine gO xLt ?_)|(refine BU (id:=26) AN (by kernel_rfl) ?_;refine gP xM <| gP xF <| gP xD <| gP xA <| gP xA ?_;refine Ke ?_)|(refine Tx 27 ?_;refine gO xAd <| gO xM ?_))
  refine ⟨_,_,BK 3,_,by omega,j+1,RV,XX,by omega,rfl,hS2,rfl,rfl⟩
 obtain rfl:j=ls.length:=by omega
 repeat' (with_reducible first|refine qq ?_|(refine Tx 7 ?_;refine gO xLt ?_)|(refine Tx 28 ?_;refine gO xA ?_))
 exact NR
def eiV (ns:List Int):List Pq:=ns.map fun n=>Ac n 0 (-3)
def AvB {ns:List Int} {k:Nat} {n:Int} (h:ns[k]?=some n):(eiV ns)[k]?=some (Ac n 0 (-3)):=by unfold eiV;rw [ag,h];rfl
def YF:List Int:=[4,4,4,4]
def Apn:List Iq:=[Dc [(-1,0),(1,0)],Dc [(-1,0),(1,0)],Dc [(-2,0),(2,0)],Dc [(-2,0),(2,0)]]
def ApG:List Pq:=eiV [0,1,1,1]
def exCt:Ct:=⟨YF,Apn,ApG⟩
def EH {t:Bool} {cs:List C} {ds:List D} (hc:cs=ds.map C.d) (h:∀ d∈ds,Dh d):Ba (FD t H) cs ds:=by
 subst hc
 exact Ba.map_l.2 ⟨rfl,fun j a b ha hb=>by rw [ha] at hb;cases hb;exact .d fun _=>h _ (gM ha)⟩
def Rz:∀ d∈Ay (dIw false) Apn,Dh d:=fun d hd=>Ce (f:=dIw false) (fun a=>Ik a) Apn d hd
def AbW:List (Rv × Rv):=Apn.map UF
def Apo:List Rv:=ApG.map EL
def AvC:dCr false YF AbW Apo=dCt false exCt:=by
 unfold dCr dCt AbW Apo
 rw [Rg,Uu]
 rfl
def AtY:∀ q∈AbW,RvL q.1∧RvL q.2:=fun q hq=>by
 obtain ⟨a,ha,rfl⟩:=List.mem_map.1 hq
 have key:(Apn.all fun a=>decide ((Ae a.1.1.natAbs).length≤40000) && decide ((Ae a.2.1.natAbs).length≤40000))=true:=by decide +kernel
 have:=List.all_eq_true.1 key a ha
 rw [aj,decide_eq_true_eq,decide_eq_true_eq] at this
 exact ⟨⟨AF _,this.1⟩,⟨AF _,this.2⟩⟩
def AvD:∀ r∈Apo,RvL r:=fun r hr=>by
 obtain ⟨a,ha,rfl⟩:=List.mem_map.1 hr
 have key:(ApG.all fun a=>decide ((Ae a.1.natAbs).length≤40000))=true:=by decide +kernel
 exact ⟨AF _,of_decide_eq_true (List.all_eq_true.1 key a ha)⟩
def AvE:ckE flP flB flO YF AbW Apo=0:=by decide +kernel
def AvF:vfE flP flB flO YF AbW Apo=true:=by decide +kernel
def AlF:Fa flP flB flO:=⟨by decide,by decide,by decide,by decide⟩
def AgR {P:Program} {fn:Func} {F:Frm} {ids:List Nat} {rows:List Nw} {t:Tmp} {ty ty' id k:Nat} {cs:List C} {ys:List Yr} (hk:TyK P ty true k) (hr:fn.results=#[.cell t ty]) (hF:F t=.one (.ref id 0 none)) (hH:H[id]?=some (.box ty' cs)) (hi:cs.length=k) (h:Ba (YC ids rows) ys cs):Aty P fn F H ids rows (.agg ys):=by
 obtain ⟨⟨d,hu,hd⟩,hz⟩:=hk
 exact .cell hr hF hH hu hd (by rw [hz,hi]) h
def Qe (l:List Pq):∀ d∈Ay dyP l,Dh d:=fun d hd=>Ce (f:=dyP) (fun p=>Ox _ _) l d hd
def GL (l:List Int):∀ d∈l.map dI,Dh d:=fun d hd=>by
 obtain ⟨z,_,rfl⟩:=List.mem_map.1 hd
 exact .val _
def YG (a b c d:Int) (w:World):(Op.equalIn 10000 34 (.agg #[.int .i64 a,.int .i64 b]) (.agg #[.int .i64 c,.int .i64 d])).run prog w=.ok (a == c && b == d) w:=by
 have hS:prog.underlying 34=some (.struct (prog.fieldsOf 34)):=by kernel_rfl
 have hp:prog.stoodInHeld 34=false:=by kernel_rfl
 have hi:prog.underlying 3=some (.int .i64):=by kernel_rfl
 rw [show (10000:Nat)=9999+1 from rfl,run_equalIn_agg w 9999 34 _ _ hS hp]
 simp only [Program.fieldsOf,underlying34]
 go_simp
 cases h1:(a == c) <;> cases h2:(b == d) <;> simp_all
section
variable {G:World→Prop} {o:Oper} {F:Frm} {H:List Ob} {t':TypeId} {x y:Operand} {a b c d:Int} {r:Bool}
def App (ho:o.op=.binOp .eql 34 x y t') (hx:F.ev x=.agg [.d (.val (.int .i64 a)),.d (.val (.int .i64 b))]) (hy:F.ev y=.agg [.d (.val (.int .i64 c)),.d (.val (.int .i64 d))]) (hr:(a == c && b == d)=r):Bd prog G o F H (.one (.d (.val (.bool r)))) [] :=
 AoV (xs:=[.int .i64 a,.int .i64 b]) (ys:=[.int .i64 c,.int .i64 d]) ho (by kernel_rfl) (.inl ⟨rfl,hr.symm⟩) hx hy (YG a b c d)
end
def Auo:List Pq:=ApG.set 1 (Ac 1 0 (-4))
def exC2:Ct:=⟨YF,Apn,Auo⟩
def Apq:List Rv:=Auo.map EL
def AtZ:dCr false YF AbW Apq=dCt false exC2:=by
 unfold dCr dCt AbW Apq
 rw [Rg,Uu]
 rfl
def Aua:∀ r∈Apq,RvL r:=fun r hr=>by
 obtain ⟨a,ha,rfl⟩:=List.mem_map.1 hr
 have key:(Auo.all fun a=>decide ((Ae a.1.natAbs).length≤40000))=true:=by decide +kernel
 exact ⟨AF _,of_decide_eq_true (List.all_eq_true.1 key a ha)⟩
def Aub:ckE flP flB flO YF AbW Apq=0:=by decide +kernel
def AlG:vfE flP flB flO YF AbW Apq=false∧vfP flP flB flO YF AbW Apq=(3,1):=by decide +kernel
def AgS:∀ d∈dDg false flP flB flO,Dh d:=fun d hd=>by
 simp only [dDg,bz,ce,or_false] at hd
 rcases hd with rfl|rfl|rfl
 ·refine .row fun d hd=>?_
  simp [flP,Ay,AhQ] at hd
  rcases hd with rfl|rfl|rfl <;> exact .val _
 ·refine .row fun d hd=>?_
  obtain ⟨l,hl,hd⟩:=List.mem_flatten.1 hd
  obtain ⟨b,_,rfl⟩:=List.mem_map.1 hl
  simp only [dBk,bz,ce,or_false] at hd
  rcases hd with rfl|rfl|rfl|rfl|rfl|rfl
  ·exact .val _
  ·exact .row (GL _)
  all_goals exact .val _
 ·exact .row (GL _)
def YH (t:Bool) (ns:List Int) (hn:∀ z∈ns,-1000≤z∧z≤1000) (hl:ns.length≤1000000):CVN prog An 166 [.one (AU t ns)] [⟨43,3,(eiV ns).length,Ay dyP (eiV ns)⟩] (.one (.own 0 (eiV ns).length)):=by
 refine WQ RL func166 rfl ntmps166 (bg rfl) ?_
 repeat' (with_reducible first|refine qq ?_|(refine Tx 0 ?_;refine gO xA ?_)|(refine Tx 1 ?_;refine gO xA ?_))
 refine Bj (MS 3 43 3 rfl) ?_
 repeat' (with_reducible first|refine qq ?_|(refine Tx 2 ?_;refine gO xM <| gO xN <| gO xM ?_))
 refine Bj (BK 1) (Av (fun n Fr H=>∃ k:Nat,k≤ns.length∧n=ns.length - k∧Fr=ofL [(3,vo 0 (((eiV ns).take k).length)),(6,vd (AU t ns)),(7,vi ns.length),(8,vi ((k:Nat)))]∧H=[.row 43 3 ((eiV ns).take (k)).length ((Ay dyP ((eiV ns).take (k))).map C.d)]) (n0:=ns.length) ⟨0,ad _,rfl,rfl,rfl⟩ ?_)
 rintro n Fr H ⟨k,hk,rfl,rfl,rfl⟩
 by_cases hlt:k<ns.length
 case pos =>
  obtain ⟨z,hz⟩:∃ z,ns[k]?=some z:=⟨_,gE hlt⟩
  have hb:=hn z (gM hz)
  have OF:=Aea (G:=An) z (by omega) (by omega)
  have SH:=QO (G:=An) false z 0 (-3) ⟨by decide,fun h=>absurd rfl h⟩ (lT (AJ (k:=2) (by omega)) (by decide)) (by omega)
  obtain ⟨hap,hap2,hoL⟩:=Wj (AvB hz)
  repeat' (with_reducible first|refine qq ?_|(refine Tx 3 ?_;refine gO xLt ?_)|(refine Tx 4 ?_;refine gO (xIr Af (AG hz)) <| gO xD <| gO xA ?_)|(refine Tx 5 ?_;refine gO xM <| gO xM <| gO (xCl func39 (OF.cv)) <| gO (xCl func38 (SH.cv)) <| gN (by exact Bp rfl Ah Ao rfl rfl (by decide) (by decide)) <| gT (by exact Gx rfl rfl rfl rfl rfl rfl Ah Ao (by omega) (by decide) (by decide) rfl hap hap2) <| gO xA ?_)|(refine Tx 6 ?_;refine gO xAd <| gO xM ?_))
  refine ⟨_,_,BK 1,_,?_,k+1,by omega,rfl,rfl,rfl⟩
  ·omega
 obtain rfl:k=ns.length:=by omega
 have hel:(eiV ns).length=ns.length:=af ..
 rw [←hel,au]
 repeat' (with_reducible first|refine qq ?_|(refine Tx 3 ?_;refine gO xLt ?_)|(refine Tx 7 ?_;refine gO xM <| gO xA ?_))
 exact ⟨.inl rfl,[0],by decide,.cons_ ⟨rfl,Qe _⟩ .nil_,.tmp results166 rfl ⟨0,_,rfl,rfl,rfl,rfl⟩⟩
def Aay (h:p:=by first|exact xCl func165 (I1)|exact xCl func165 (I2)):p:=h
def YI  : CVN prog An 75 [] [⟨3,1,4,YF.map dI⟩,⟨45,6,4,Ay (dIw false) Apn⟩,⟨43,3,4,Ay dyP ApG⟩] (.agg [.own 0 4,.own 1 4,.own 2 4]):=by
 refine WQ RL func75 rfl ntmps75 (bg rfl) ?_
 have I1:=Ws (-1) 1 (by decide) (by decide)
 have I2:=Ws (-2) 2 (by decide) (by decide)
 have EI:=YH true [0,1,1,1] (by decide) (by decide)
 repeat' (with_reducible first|refine qq ?_|(refine Tx 0 ?_;refine gN (xAl Qz) ?_)|(refine Tx 1 ?_;refine gN (by exact Fq rfl rfl Af BV (by decide) (by decide) (by decide) rfl rfl rfl) <| gO Aay <| gO Aay <| gO Aay <| gO Aay <| gN (by exact Fq rfl rfl Aj Ap (by decide) (by decide) (by decide) rfl rfl rfl) <| gN (by exact Fq rfl rfl Af BV (by decide) (by decide) (by decide) rfl rfl rfl) <| gN (by exact AfZ rfl func166 (by kernel_rfl) (by with_unfolding_all exact rfl) EI (by with_unfolding_all first|((repeat' first|exact BJ rfl rfl|refine AZ rfl rfl ?_ ?_|refine EP rfl rfl ?_|refine CZ rfl rfl ?_|exact Bs rfl (fun h=>by cases h)|exact EQ rfl rfl|exact cexp_e rfl rfl|refine Dx rfl rfl rfl ?_) <;> fail)|fail)) <| gO (by exact Az rfl TL rfl rfl) <| gZ (xSk DF) ?_))
 exact ⟨.inl rfl,[1,2,4],by decide,.cons_ ⟨rfl,GL _⟩ (.cons_ ⟨rfl,Rz⟩ (.cons_ ⟨rfl,Qe _⟩ .nil_)),AgR DF results75 rfl rfl rfl (.cons_ ⟨1,_,rfl,rfl,rfl,rfl⟩ (.cons_ ⟨2,_,rfl,rfl,rfl,rfl⟩ (.cons_ ⟨4,_,rfl,rfl,rfl,rfl⟩ .nil_)))⟩
def AgT (h:p:=by first|exact Dw rfl Ai rfl (RH rfl)|exact Dw rfl Ai rfl (RH (by first|rfl|omega))|exact Dw rfl Ai rfl (Vz (by first|assumption|omega))|exact Dw rfl Ai rfl rfl):p:=h
def AbX  : CV prog An 30 [] [aB true]:=by
 refine cvz func30 ntmps30 ?_
 have FC:=AfD
 have XC:=YI
 have VC1:=Mv false AlF YF AbW Apo AtY AvD (by decide) (by decide) (by decide)
 rw [AvF,AvE,AvC] at VC1
 generalize vfP flP flB flO YF AbW Apo=e1 at VC1
 have VC2:=Mv false AlF YF AbW Apq AtY Aua (by decide) (by decide) (by decide)
 rw [AlG.1,AlG.2,Aub,AtZ] at VC2
 have OF:=Aea (G:=An) 1 (by decide) (by decide)
 have SH:=QO (G:=An) false 1 0 (-4) ⟨by decide,fun h=>absurd rfl h⟩ (by decide +kernel) (by decide)
 repeat' (with_reducible first|refine qq ?_|(refine Tx 0 ?_;refine gO xA ?_)|(refine Tx 1 ?_;refine gO (xCl func74 (FC)) ?_;refine Jl (by exact Aga rfl func75 (by kernel_rfl) (by with_unfolding_all exact rfl) XC (by with_unfolding_all first|((repeat' first|exact BJ rfl rfl|refine AZ rfl rfl ?_ ?_|refine EP rfl rfl ?_|refine CZ rfl rfl ?_|exact Bs rfl (fun h=>by cases h)|exact EQ rfl rfl|exact cexp_e rfl rfl|refine Dx rfl rfl rfl ?_) <;> fail)|fail)) ?_;refine gN (xAl Ss) <| gN (xAl Qz) <| gZ (xSk Cc) <| gZ (xSk DF) ?_)|(refine Tx 2 ?_;refine gO xL <| gO xL <| gO (by exact NK rfl func12 (by kernel_rfl) (by with_unfolding_all exact rfl) rfl VC1 (by with_unfolding_all exact AZ rfl rfl ⟨false,CZ rfl rfl (EH rfl AgS)⟩ (AZ rfl rfl ⟨false,CZ rfl rfl (AZ rfl rfl (Dx rfl rfl rfl (EH rfl (GL YF))) (AZ rfl rfl (Dx rfl rfl rfl (EH rfl Rz)) (AZ rfl rfl (Dx rfl rfl rfl (EH rfl (Qe ApG))) (BJ rfl rfl))))⟩ (BJ rfl rfl)))) <| gO xMt <| gO xEx <| gO (by exact EO rfl rfl rfl) <| gO xEx <| gN (xAl DJ) <| gO xA <| gZ (xSk Bz) <| gO xA ?_)|(refine AE (id:=3) 5 AN (by kernel_rfl) ?_;dsimp only [List.take,List.drop];refine gP xF <| gP xD <| gP (xCl func39 (OF.cv)) <| gP (xCl func38 (SH.cv)) <| gP (xIo (i:=1) Ah) ?_;refine Ke ?_;refine gZ (xSk Ad) ?_)|(refine Tx 4 ?_;refine gO xL <| gO xL <| gO (by exact NK rfl func12 (by kernel_rfl) (by with_unfolding_all exact rfl) rfl VC2 (by with_unfolding_all exact AZ rfl rfl ⟨false,CZ rfl rfl (EH rfl AgS)⟩ (AZ rfl rfl ⟨false,CZ rfl rfl (AZ rfl rfl (Dx rfl rfl rfl (EH rfl (GL YF))) (AZ rfl rfl (Dx rfl rfl rfl (EH rfl Rz)) (AZ rfl rfl (Dx rfl rfl rfl (EH rfl (Qe Auo))) (BJ rfl rfl))))⟩ (BJ rfl rfl)))) <| gO xMt <| gO xEx <| gO (by exact EO rfl rfl rfl) <| gO xEx <| gN (xAl DJ) <| gO xA <| gZ (xSk Bz) <| gO xA ?_)|(refine Tx 5 ?_;refine gO xM <| gO AgT <| gO xM ?_;(first|iterate 2 refine Jd ?_|(refine Jy xM1 ?_;refine Jy AgT ?_));refine gO xPk <| gO xM ?_;(first|refine Jd ?_|refine Jy xM1 ?_);refine gO xPk <| gO xM ?_;(first|iterate 2 refine Jd ?_|(refine Jy xM1 ?_;refine Jy EG ?_));refine gO xPk <| gO xM ?_;(first|iterate 3 refine Jd ?_|(refine Jy (xLa Bz) ?_;refine Jy (by exact Az rfl FN rfl rfl) ?_;refine Jy (by first|exact App rfl rfl rfl rfl|exact xEq) ?_));refine gO xPk <| gO xA ?_))
 exact NR
def AgU (k:p') (h:Hd9 p'→p:=by with_reducible first|(intro Z9;refine Tx 1 ?_;refine gO (xCl func30 (AW)) <| gO EG <| gO xM ?_;(first|iterate 3 refine Jd ?_|(refine Jy (xLa Cc) ?_;refine Jy (xCl func31 (LT)) ?_;refine Jy EG ?_));refine gO xPk <| gO xM ?_;(first|iterate 4 refine Jd ?_|(refine Jy (xFa BO AX) ?_;refine Jy (xLd AX) ?_;refine Jy (xLn Al) ?_;refine Jy xGt ?_));refine gO xPk <| gO xM ?_;(first|iterate 3 refine Jd ?_|(refine Jy xM1 ?_;refine Jy (xCl func44 (SH)) ?_;refine Jy EG ?_));refine gO xPk <| gO xM ?_;(first|refine Jd ?_|refine Jy (xLa Cc) ?_);refine Jd ?_;(first|refine Jd ?_|refine Jy (xNE Ai) ?_);refine gO xPk ?_;exact Z9.o)|fail):p:=h ⟨k⟩
def AlH (k:p') (h:Hd9 p'→p:=by with_reducible first|(intro Z9;refine Tx 1 ?_;refine gO (xCl func30 (AW)) <| gO EG <| gO xM ?_;(first|iterate 3 refine Jd ?_|(refine Jy (xLa Cc) ?_;refine Jy (xCl func31 (LT)) ?_;refine Jy EG ?_));refine gO xPk <| gO xM ?_;(first|iterate 4 refine Jd ?_|(refine Jy (xFa BO AX) ?_;refine Jy (xLd AX) ?_;refine Jy (xLn Al) ?_;refine Jy xGt ?_));refine gO xPk <| gO xM ?_;(first|iterate 3 refine Jd ?_|(refine Jy xM1 ?_;refine Jy (xCl func44 (SH)) ?_;refine Jy EG ?_));refine gO xPk <| gO xM ?_;(first|iterate 3 refine Jd ?_|(refine Jy (xLa Cc) ?_;refine Jy (xCl func35 (CK)) ?_;refine Jy (xNE Ai) ?_));refine gO xPk ?_;exact Z9.o)|(intro Z9;refine Tx 3 ?_;refine gO xL <| gO xM <| gO (by first|exact Aej rfl rfl rfl (by decide) hm|exact AcX rfl rfl rfl (by omega)) <| gO (by first|exact Es rfl underlying5 underlying3 rfl hwr|exact Fl rfl underlying5 underlying3 rfl) <| gO xAd ?_;refine Jl (by exact NJ rfl func32 (by kernel_rfl) (by with_unfolding_all exact rfl) MK (by with_unfolding_all first|((repeat' first|exact BJ rfl rfl|refine AZ rfl rfl ?_ ?_|refine EP rfl rfl ?_|refine CZ rfl rfl ?_|exact Bs rfl (fun h=>by cases h)|fail) <;> fail)|fail)) ?_;refine gO (by first|exact AfY rfl rfl|exact Zf rfl rfl) <| gO (by first|exact Aaj rfl rfl rfl|exact EO rfl rfl rfl) <| gO (by first|exact Aaj rfl rfl rfl|exact xEx) <| gO (by first|exact Aaj rfl rfl rfl|exact xEx) <| gN (xAl Qz) <| gZ (xSk DF) <| gO xA <| gO xA ?_;exact Z9.o)|(intro Z9;refine Tx 4 ?_;refine gO xM <| gO (xNE Ai) <| gO xM ?_;(first|iterate 2 refine Jd ?_|(refine Jy xM1 ?_;refine Jy EG ?_));refine gO xPk ?_;exact Z9.o)|fail):p:=h ⟨k⟩
def MD (ps:List Prt) (bs:List Bk) (os:List Int) (k:Int) (hk0:0≤k) (hk1:k<256) (ls:List (List Int)) (hln:(ls.length:Int)≤9223372036854775807):CV prog An 10 [aDg true ps bs os,.one (.val (.int .u8 k)),.one (Yf true ls)] [aB true]:=by
 refine cvz func10 ntmps10 ?_
 have AW:=AbX
 have LT:=AiG ps bs os
 have SH:=AbV true ls hln
 cases h1:Pf ps bs os
 case false =>
  rw [h1] at LT
  repeat' (with_reducible first|refine qq ?_|(refine Tx 0 ?_;refine gN xBo <| gO xA ?_)|refine AgU ?_|(refine Tx 2 ?_;refine gO (xCl func30 (AW)) <| gO xA ?_))
  exact NR
 rw [h1] at LT
 have hl:=(AeX h1).1
 have hn:=hl.l2
 by_cases h24:bs.length≤24
 case neg =>
  repeat' (with_reducible first|refine qq ?_|(refine Tx 0 ?_;refine gN xBo <| gO xA ?_)|refine AgU ?_|(refine Tx 2 ?_;refine gO (xCl func30 (AW)) <| gO xA ?_))
  exact NR
 cases h2:Mz ls
 case false =>
  rw [h2] at SH
  repeat' (with_reducible first|refine qq ?_|(refine Tx 0 ?_;refine gN xBo <| gO xA ?_)|refine AgU ?_|(refine Tx 2 ?_;refine gO (xCl func30 (AW)) <| gO xA ?_))
  exact NR
 rw [h2] at SH
 obtain ⟨hll,hlc⟩:=YE h2
 have CK:=(Hy true hl).cv
 by_cases h0:AO ps bs os=0
 case neg =>
  repeat' (with_reducible first|refine qq ?_|(refine Tx 0 ?_;refine gN xBo <| gO xA ?_)|(refine Tx 1 ?_;refine gO (xCl func30 (AW)) <| gO EG <| gO xM ?_;(first|iterate 3 refine Jd ?_|(refine Jy (xLa Cc) ?_;refine Jy (xCl func31 (LT)) ?_;refine Jy EG ?_));refine gO xPk <| gO xM ?_;(first|iterate 4 refine Jd ?_|(refine Jy (xFa BO AX) ?_;refine Jy (xLd AX) ?_;refine Jy (xLn Al) ?_;refine Jy xGt ?_));refine gO xPk <| gO xM ?_;(first|iterate 3 refine Jd ?_|(refine Jy xM1 ?_;refine Jy (xCl func44 (SH)) ?_;refine Jy EG ?_));refine gO xPk <| gO xM ?_;(first|iterate 3 refine Jd ?_|(refine Jy (xLa Cc) ?_;refine Jy (xCl func35 (CK)) ?_;refine Jy (by first|exact Bw rfl Ai rfl (GP h0)|exact Bw rfl Ai rfl (Ps AlE)|exact Bw rfl Ai rfl (GP AlD)|exact Bw rfl Ai rfl rfl) ?_));refine gO xPk ?_)|(refine Tx 2 ?_;refine gO (xCl func30 (AW)) <| gO xA ?_))
  exact NR
 rw [h0] at CK
 obtain ⟨m,hm⟩:∃ m,k.tmod 16=m:=⟨_,rfl⟩
 have hm2:0≤m∧m<16:=by rw [←hm,Int.tmod_eq_emod_of_nonneg hk0];omega
 have hwr:IntKind.i64.wrap m=m:=jk m (by omega)
 obtain ⟨f,e,l,hf,hres,hI⟩:=AfI h0 hl (1+m) (by omega)
 have MK:=AbH true hl h0 (1+m) (by omega) (by omega) hf hres hI
 rcases hmk:mkC ps bs os e l with _|c
 case none =>
  rw [hmk] at MK
  repeat' (with_reducible first|refine qq ?_|(refine Tx 0 ?_;refine gN xBo <| gO xA ?_)|refine AlH ?_|(refine Tx 5 ?_;refine gO xM <| gO AgT <| gO xA ?_))
  exact NR
 rw [hmk] at MK
 obtain ⟨A,hF,hR,sR,hE,hv⟩:=AoR h0 hI hmk
 have FO:=AgQ true true hl c.F (c.R.map UF) (c.E.map EL) (WC sR (by decide)) (Avt hE) (AfX h0 hF hR sR hE) (by rw [Ats];exact A) ls hll hlc
 rw [Att] at FO
 unfold dCt AU at FO
 dsimp only at FO
 rw [hF.len,hE.len,hR] at FO
 repeat' (with_reducible first|refine qq ?_|(refine Tx 0 ?_;refine gN xBo <| gO xA ?_)|refine AlH ?_|(refine Tx 6 ?_;refine gO xL <| gO xL <| gO xM <| gO (by exact NK rfl func45 (by kernel_rfl) (by with_unfolding_all exact rfl) rfl FO (by with_unfolding_all exact AZ rfl rfl ⟨true,CZ rfl rfl (AZ rfl rfl (Bs rfl (fun h=>by cases h)) (AZ rfl rfl (Bs rfl (fun h=>by cases h)) (AZ rfl rfl (Bs rfl (fun h=>by cases h)) (BJ rfl rfl))))⟩ (AZ rfl rfl ⟨false,CZ rfl rfl (AZ rfl rfl (Dx rfl rfl rfl (OS rfl (Lc _))) (AZ rfl rfl (Bs rfl (fun _=>.row (Ce (f:=dIw false) Ik _))) (AZ rfl rfl (Dx rfl rfl rfl (OS rfl (IA _))) (BJ rfl rfl))))⟩ (AZ rfl rfl ⟨true,EP rfl rfl (Bs rfl (fun h=>by cases h))⟩ (BJ rfl rfl))))) <| gO xA ?_))
 exact NR
open Go.ChangeShapes Go.WideShapes Go.ChangeAt Go.Joins Go.Deep
def Apr (w:World):DH:=fun t b=>t=true∧b<w.heap.size
def AgV {A:Option Addr} {s c:Nat} {cs:List D} {xs:List Value} (h:Am w w.heap.size A xs) (hc:n≤c) (hA:A=none→c=0) (hl:cs.length=n*s) (hr:Ba (Bo w (Apr w)) cs xs):Bo w (Apr w) (.row true s n cs) (.slice A n c):=by
 refine .row xs hc hA hl hr.1 (fun hne=>?_) hr.2
 obtain ⟨b,off,h1,_,h2,h3⟩:=h (fun h0=>hne (by have:=hr.1;rw [h0] at this;exact cq (by simpa using this)))
 exact ⟨b,off,h1,⟨rfl,h2⟩,h3⟩
def Aaz {zs:List Int}:∀ v∈Lv zs,v.oneCell'=true:=fun v hv=>by
 obtain ⟨z,_,rfl⟩:=List.mem_map.1 hv
 rfl
def AgW {A:Option Addr} {zs:List Int} {c:Nat} (h:Am w w.heap.size A (Lv zs)) (hc:zs.length≤c) (hA:A=none→c=0):Bo w (Apr w) (AU true zs) (.slice A zs.length c):=by
 unfold AU
 rw [AdI]
 exact AgV h hc hA (by simp [Lv]) (TU Aaz)
def Aps:∀ v∈NT Prt.cells ps,v.oneCell'=true:=fun v hv=>by
 obtain ⟨l,hl,hv⟩:=List.mem_flatten.1 hv
 obtain ⟨p,_,rfl⟩:=List.mem_map.1 hl
 simp only [Prt.cells,bz,ce,or_false] at hv
 rcases hv with rfl|rfl|rfl <;> rfl
def Xd {α:Type} {f:α→List Value} {s:Nat} (hf:∀ x,(f x).length=s):∀ l:List α,(NT f l).length=l.length*s
 | []=>by simp [NT]
 | x::l=>by
  have ih:=Xd hf l
  unfold NT at ih ⊢
  rw [bp,gd,ak,ih,hf,bi,bq]
  omega
def Apt {A:Option Addr} {c:Nat} (h:Am w w.heap.size A (NT Prt.cells ps)) (hc:ps.length≤c) (hA:A=none→c=0):Bo w (Apr w) (Di true ps) (.slice A ps.length c):=by
 unfold Di
 rw [Oq VP]
 exact AgV h hc hA (by rw [af];exact Xd (f:=Prt.cells) (s:=3) (fun _=>rfl) ps) (TU Aps)
def AlI {w:World}:∀ {bs:List Bk},(∀ b∈bs,Am w w.heap.size b.A (Lv b.args)∧b.args.length≤b.cap∧(b.A=none→b.cap=0))→Ba (Bo w (Apr w)) (Ay (dBk true) bs) (NT Bk.cells bs)
 | [],_=>.nil_
 | b::bs,h=>by
  have ih:=AlI (w:=w) (bs:=bs) fun x hx=>h x (by simp [hx])
  obtain ⟨h1,h2,h3⟩:=h b (by simp)
  exact .cons_ (.val rfl) (.cons_ (AgW h1 h2 h3) (.cons_ (.val rfl) (.cons_ (.val rfl) (.cons_ (.val rfl) (.cons_ (.val rfl) ih)))))
def AgX (t:Bool):∀ bs:List Bk,(Ay (dBk t) bs).length=bs.length*6
 | []=>rfl
 | b::bs=>by
  have ih:=AgX t bs
  show (Ay (dBk t) ([b]++bs)).length=_
  rw [EA,ak,ih,bi,bq]
  show 6+bs.length*6=_
  omega
section
variable {H:Type} {enc:TypeId × Value→H} {w:World} {spare:Nat→Bool} {held:Bool}
def AjG {r:Go.Reach} {b0:Nat} {v:Value} {d:DataW H} {p:List MemPlace} (hv:Value.okWide prog w r b0 26 v) (h:DataW.Trod enc prog w 0 spare held 26 v d p) :
  ∃ (ps:List Prt) (bs:List Bk) (os:List Int),EK w (Apr w) (aDg true ps bs os) v:=by
 obtain ⟨v0,v1,v2,y0,y1,y2,m,rfl,rfl,rfl,g0,g1,g2⟩:=open_agg3 underlying26 (by kernel_rfl) (by kernel_rfl) hv h
 obtain ⟨A1,c1,ps,rfl,n1,k1,l1,h1,b1⟩:=VL AqT XI (fun _=>rfl) (by decide) underlying22 underlying81 (by kernel_rfl) (Sw (by kernel_rfl)) (by kernel_rfl) rfl g0
 obtain ⟨A2,c2,bs,e2,l2,h2,b2⟩:=VN g1
 obtain ⟨A3,c3,os,rfl,n3,k3,l3,h3,b3⟩:=GS underlying24 underlying3 (by kernel_rfl) g2
 have hs:(A2=none→c2=0)∧bs.length≤c2:=by
  rcases open_slice underlying23 g1 with ⟨hcs,_⟩|⟨a,len,cap,m,n,D,Pl,hcs,_,hl,hm,hmm,_,hx⟩
  ·have e3:v1=.slice none 0 0:=by simpa using hcs
   rw [e2] at e3
   simp only [Value.slice.injEq] at e3
   exact ⟨fun _=>e3.2.2,by omega⟩
  ·have e3:v1=.slice (some a) len cap:=by simpa using hcs
   rw [e2] at e3
   simp only [Value.slice.injEq] at e3
   exact ⟨fun h0=>(by rw [e3.1] at h0;cases h0),by omega⟩
 refine ⟨ps,bs,os,[.slice A1 ps.length c1,v1,.slice A3 os.length c3],rfl,?_⟩
 rw [e2]
 exact .cons_ (Apt h1 k1 n1) (.cons_ (AgV h2 hs.2 hs.1 (AgX true bs) (AlI fun b hb=>⟨(b2 b hb).2.2.2.1,(b2 b hb).2.1,(b2 b hb).1⟩)) (.cons_ (AgW h3 k3 n3) .nil_))
end
def Ach (w:World):DH:=fun _ b=>b<w.heap.size
def Ach.of {x:A} {v:Value} (h:EK w (Apr w) x v):EK w (Ach w) x v:=h.mono (fun _ _ hb=>hb.2) fun _ _ _=>rfl
def Apu {f:FuncId} {args:List A} (h:CV prog An f args [aB true]) {w:World} (ht:An w) {vs:List Value} (ha:Ba (EK w (Ach w)) args vs) :
  Calls prog f vs.toArray w fun e w'=>e=.returned (.bool true)∧Below w.heap.size w w' :=
 (h w _ vs ht (fun t b hb=>hb) ha).mono fun e w' ⟨v,h1,h2,h3⟩=>by
  have h4:Bo w' _ (dB true) v:=h2
  cases h4
  exact ⟨h1,h3⟩
structure AgY (α:Type) (s:Nat) where
 cs:List Value
 len:cs.length=s
 a:α
instance {α:Type} {s:Nat} [Inhabited α]:Inhabited (AgY α s):=⟨⟨List.replicate s undef,dt,default⟩⟩
section
variable {H:Type} {enc:TypeId × Value→H} {P:Program} {w:World} {spare:Nat→Bool} {held:Bool}
def US {α:Type} [Inhabited α] {s:Nat} {Q:α→List Value→Prop} (hs0:0<s) {t e:TypeId} {fuel:Nat} {v:Value} {x:DataW H × List MemPlace} (ht:P.underlying t=some (.slice e)) (hC:P.cellsOf e=s)
  (hrow:∀ (fuel:Nat) (cs:List Value) (x:DataW H × List MemPlace),DataW.trod enc P w 0 spare held fuel e cs=some x→cs.length=s→∃ a,Q a cs)
  (h:DataW.trod enc P w 0 spare held fuel t [v]=some x) :
  ∃ (A:Option Addr) (cap:Nat) (l:List (AgY α s)),v=.slice A l.length cap∧(A=none→cap=0)∧l.length≤cap∧l.length≤maxLen∧Am w w.heap.size A (NT AgY.cs l)∧∀ x∈l,Q x.a x.cs:=by
 rcases open_slice ht h with ⟨hcs,_⟩|⟨a,len,cap,m,n,D,Pl,hcs,_,hl,hm,hmm,_,hx⟩
 ·exact ⟨none,0,[],by simpa using hcs,fun _=>rfl,aa _,ad _,Am.nil_,by simp⟩
 ·have hle:len≤m:=by rw [hmm];split <;> omega
  rw [hC] at hx
  obtain ⟨R,hR⟩:=choose_lt (α:=AgY α s) (n:=len) (p:=fun i b=>Q b.a b.cs∧∀ j,j<s→w.cell? (a.add (i*s+j))=b.cs[j]?) (fun i hi=>by
   obtain ⟨cs',h1,h2⟩:=hx i (by omega)
   obtain ⟨_,hlen,hcell⟩:=World.cells?_some h1
   obtain ⟨b,hb⟩:=hrow _ _ _ h2 (by simpa using hlen)
   exact ⟨⟨cs',by simpa using hlen,b⟩,hb,fun j hj=>by rw [←add_add];exact hcell j hj⟩)
  refine ⟨some a,cap,(List.range len).map R,by simpa using hcs,by simp,by simpa using hl,by simp;omega,fun hne=>?_,?_⟩
  ·have hpos:0<len:=by
    rcases de len with h0|h0
    ·subst h0;simp [NT] at hne
    ·exact h0
   obtain ⟨b,off,spot⟩:=a
   have h00:=(hR 0 hpos).2 0 hs0
   have hz0:(R 0).cs[0]?=some ((R 0).cs[0]'(by rw [(R 0).len];exact hs0)):=gE _
   rw [hz0] at h00
   have hspot:spot=none:=by simpa [Addr.add] using World.cell?_spot h00
   subst hspot
   have hb:b<w.heap.size:=by
    rcases bh b w.heap.size with h|h
    ·exact h
    ·simp [World.cell?,Addr.add,fo h] at h00
   refine ⟨b,off,rfl,hb,hb,fun j u hu=>?_⟩
   have hjl:j<len*s:=by
    have:=(gS.1 hu).1
    rw [TR (f:=AgY.cs) (s:=s) (fun x=>x.len)] at this
    simpa using this
   have hk:j / s<len:=li (by rw [aw];exact hjl)
   have hr:j % s<s:=ff _ hs0
   have hj:j / s*s+j % s=j:=by rw [aw];exact ea j s
   have hg:((List.range len).map R)[j / s]?=some (R (j / s)):=by simp [hk]
   have h1:=IG (f:=AgY.cs) (s:=s) (fun x=>x.len) hg hr
   rw [hj,hu] at h1
   have h2:=(hR _ hk).2 (j % s) hr
   rw [hj,←h1] at h2
   rw [←Go.WideShapes.add_plain]
   exact h2
  ·intro y hy
   obtain ⟨i,hi,rfl⟩:=List.mem_map.1 hy
   exact (hR i (by simpa using hi)).1
def AgZ {tg:Bool} {A:Option Addr} {s c:Nat} {cs:List D} {xs:List Value} (h:Am w w.heap.size A xs) (hc:n≤c) (hA:A=none→c=0) (hl:cs.length=n*s) (hr:Ba (Bo w (Ach w)) cs xs):Bo w (Ach w) (.row tg s n cs) (.slice A n c):=by
 refine .row xs hc hA hl hr.1 (fun hne=>?_) hr.2
 obtain ⟨b,off,h1,_,h2,h3⟩:=h (fun h0=>hne (by have:=hr.1;rw [h0] at this;exact cq (by simpa using this)))
 exact ⟨b,off,h1,h2,h3⟩
def Auc {α:Type} [Inhabited α] (f:α→List D) (Q:α→Prop) {s:Nat} {tg:Bool} (hs0:0<s) (hfl:∀ a,(f a).length=s) {t e:TypeId} {fuel:Nat} {v:Value} {x:DataW H × List MemPlace} (ht:P.underlying t=some (.slice e)) (hC:P.cellsOf e=s)
  (hrow:∀ (fuel:Nat) (cs:List Value) (x:DataW H × List MemPlace),DataW.trod enc P w 0 spare held fuel e cs=some x→cs.length=s→∃ a,Q a∧Ba (Bo w (Ach w)) (f a) cs)
  (h:DataW.trod enc P w 0 spare held fuel t [v]=some x):∃ l:List α,Bo w (Ach w) (.row tg s l.length (Ay f l)) v∧(∀ a∈l,Q a)∧l.length≤maxLen:=by
 obtain ⟨A,cap,l,rfl,hA,hc,hm,hcl,hQ⟩:=US (Q:=fun a cs=>Q a∧Ba (Bo w (Ach w)) (f a) cs) hs0 ht hC hrow h
 refine ⟨l.map AgY.a,?_,fun a ha=>?_,by rw [af];exact hm⟩
 ·have key:∀ l:List (AgY α s),(∀ x∈l,Q x.a∧Ba (Bo w (Ach w)) (f x.a) x.cs)→Ba (Bo w (Ach w)) (Ay f (l.map AgY.a)) (NT AgY.cs l):=fun l=>by
   induction l with
   | nil=>intro _;exact Ba.nil_
   | cons y l ih=>intro hq;exact (hq y (fd ..)).2.app (ih fun z hz=>hq z (ek _ hz))
  have:=AgZ (tg:=tg) (n:=(l.map AgY.a).length) hcl (by rw [af];exact hc) hA (Adm (f:=f) hfl _) (key l hQ)
  rwa [af] at this ⊢
 ·obtain ⟨y,hy,rfl⟩:=List.mem_map.1 ha
  exact (hQ y hy).1
end
def Apv (h:n≤maxLen):(n:Int)≤9223372036854775807:=by unfold maxLen at h;omega
def Aha {α:Type} (f:α→D) (l:List α):Ay (fun a=>[f a]) l=l.map f:=by
 induction l with
 | nil=>rfl
 | cons a l ih=>show f a::Ay (fun a=>[f a]) l=f a::l.map f;rw [ih]
section
variable {H:Type} {enc:TypeId × Value→H} {w:World} {spare:Nat→Bool} {held:Bool}
instance:Inhabited Rv:=⟨⟨false,[],0⟩⟩
end
section
variable {H:Type} {enc:TypeId × Value→H} {w:World} {spare:Nat→Bool} {held:Bool}
def YJ (tg:Bool) {r:Go.Reach} {b0:Nat} {v:Value} {d:DataW H} {p:List MemPlace} (hv:Value.okWide prog w r b0 31 v) (h:DataW.Trod enc prog w 0 spare held 31 v d p) :
  ∃ ls:List (List Int),EK w (Ach w) (.one (.row tg 1 ls.length (ls.map (AU tg)))) v∧(ls.length:Int)≤9223372036854775807:=by
 obtain ⟨a0,len,cap,rfl⟩:=okWide_slice underlying31 hv
 obtain ⟨fuel,hf⟩:=h
 obtain ⟨ls,h1,_,h3⟩:=Auc (s:=1) (tg:=tg) (fun l=>[AU tg l]) (fun _=>True) (by decide) (fun _=>rfl) underlying31 (by kernel_rfl) (fun fuel cs x hx hl=>by
  match cs,hl with
  | [c],_ =>
   obtain ⟨A,cp,zs,rfl,n,k,l,hc,b⟩:=GS underlying24 underlying3 (by kernel_rfl) hx
   refine ⟨zs,trivial,.cons_ ?_ .nil_⟩
   unfold AU
   rw [AdI]
   exact AgZ hc k n (by simp [Lv]) (TU Aaz)) hf
 rw [Aha] at h1
 exact ⟨ls,h1,Apv h3⟩
end
end Go.Proofs.YtmdfjbpggbhgnaaGreatDoor
