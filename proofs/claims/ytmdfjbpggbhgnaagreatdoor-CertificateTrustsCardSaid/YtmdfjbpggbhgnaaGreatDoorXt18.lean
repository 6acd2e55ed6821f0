/- What the proofs of this claim share, part 18. No conditions. -/
import Derived.Test.YtmdfjbpggbhgnaaGreatDoorXt9
import Derived.Test.YtmdfjbpggbhgnaaGreatDoorXt16
import Derived.Test.YtmdfjbpggbhgnaaGreatDoorXt17
import Derived.Test.YtmdfjbpggbhgnaaGreatDoorXt5
import Derived.Test.YtmdfjbpggbhgnaaGreatDoorXt10
import Derived.Test.YtmdfjbpggbhgnaaGreatDoorXt15
import Derived.Test.YtmdfjbpggbhgnaaGreatDoorXt8
import Derived.Test.YtmdfjbpggbhgnaaGreatDoorXt13
import Derived.Lib.AppendZerosOnto
import Derived.Maps.AppendAt
set_option maxRecDepth 100000
set_option maxHeartbeats 8000000
set_option linter.all false
open Go.Proofs.Tryz
namespace Go.Proofs.YtmdfjbpggbhgnaaGreatDoor
open Go.RowKit
variable {bs:List Bk} {F inn os zs:List Int} {a e n s z:Int} {ps:List Prt} {xs:List Ins} {p p':Prop} {b i j t:Nat} {st:List Int × Bool} {E l:List Pq} {g:FuncId} {fn:Func} {c:Code}
section
variable {P:Program} {G:World→Prop} {o:Oper} {F:Frm} {H:List Ob}
theorem Aql {t e:TypeId} {x y:Operand} {id n m' n' s by_:Nat} {tg:Bool} {z:Value} {cs cs2:List C} {ds:List D} (ho:o.op=.call { callee:=.builtin .append,args:=#[x,y],argTypes:=#[t,t] }) (hx:F.ev x=.one (.own id n)) (hH:H[id]?=some (.row e s n cs)) (hy:F.ev y=.one (.d (.row tg s m' ds))) (ht:TyS P t e s) (hz:TyZ P e z s by_) (hn:n+m'≤100000000000) (hby:by_≤1000) (h0:0<s) (hl:ds.length=m'*s) (hys:cs++ds.map C.d=cs2) (hn':n+m'=n'):TOk P G o F H (.one (.own id n')) (H.set id (.row e s n' cs2)):=by
 subst hys
 subst hn'
 exact OV ho hx hH hy .row ht hz hn h0 hby (by simp [hl])
end
open Cd
theorem Fg (n e f:Int):Bc (Dq n e f)=true:=by
 unfold Dq
 by_cases h:BJ n e f=0
 ·rw [if_pos h]
  unfold BJ at h
  by_cases h1:GS n e f
  ·rw [if_pos h1] at h
   by_cases h2 : -2147483648≤shE n (e+f)∧shE n (e+f)<2147483648
   ·exact decide_eq_true h2
   ·rw [if_neg h2] at h;cases h
  ·rw [if_neg h1] at h;cases h
 ·rw [if_neg h];rfl
theorem Ru (bs:List Bk) (F:List Int) (j:Nat):Bc (Ed bs F j)=true:=by
 unfold Ed
 split
 ·exact Fg _ _ _
 ·rfl
theorem Aap (bs:List Bk) (F:List Int) (j:Nat):Bc (GF bs F j)=true:=by
 unfold GF
 split
 ·exact Fg _ _ _
 ·rfl
theorem Rx (h:z∈Cv bs F):Bc z=true:=by
 unfold Cv at h
 rcases List.mem_append.1 h with h|h
 ·rcases List.mem_append.1 h with h|h
  ·obtain ⟨j,_,rfl⟩:=List.mem_map.1 h
   split
   ·exact Ru _ _ _
   ·rfl
  ·rw [(List.mem_replicate.1 h).2];rfl
 ·obtain ⟨j,_,h⟩:=List.mem_flatMap.1 h
  simp only [bo,bp,or_false] at h
  rcases h with rfl|rfl
  ·exact Ru _ _ _
  ·exact Aap _ _ _
theorem Ib (bs:List Bk) (F:List Int):(Cv bs F).length=bs.length+(dlK bs bs.length).length+2*(cpK bs bs.length).length:=by
 unfold Cv
 rw [ak,ak,Fa,fa,UL,GV]
theorem UU (bs:List Bk):∀ k,(dlK bs k).length+(cpK bs k).length≤k
 | 0=>aa _
 | k+1=>by
  have ih:=UU bs k
  rw [HJ,HM]
  by_cases h:AG bs k=2
  ·rw [if_pos h,if_neg (by omega),ak]
   simp
   omega
  ·rw [if_neg h]
   split
   ·rw [ak]
    simp
    omega
   ·omega
theorem YL (p q:Nat→Bool) (h:∀ i,p i=true→q i=true→False):∀ l:List Nat,(l.filter p).length+(l.filter q).length≤l.length
 | []=>aa _
 | x::l=>by
  have ih:=YL p q h l
  rw [kc,kc]
  cases hp:p x <;> cases hq:q x
  ·simp only [dr,if_false,bk];omega
  ·simp only [dr,if_false,if_true,bk];omega
  ·simp only [dr,if_false,if_true,bk];omega
  ·exact (h x hp hq).elim
theorem Aml (bs:List Bk):(BH bs).length+(dlK bs bs.length).length≤bs.length:=by
 have h1:=(FJ bs.length (EX.nil bs)).le
 have h2:CQ bs+(dlK bs bs.length).length≤bs.length:=by
  have:=YL (fun i=>AG bs i != 2) (fun i=>AG bs i == 2) (fun i h1 h2=>by simp at h1 h2;exact h1 h2) (List.range bs.length)
  rw [kh] at this
  exact this
 have h3:(BH bs).length≤CQ bs:=h1
 omega
theorem IM {np n:Nat} {op dst b sa sb imm:Int} {u1 u2 u3 u4 u5:Bool} (hu:Cw op=(u1,u2,u3,u4,u5,true)) (hd:0≤dst∧dst<n) (ha:if u1=true then 0≤a∧a<(if op=0 then (np:Int) else n) else a=0) (hb:if u2=true then 0≤b∧b<n else b=0)
  (hsa:if u3=true then FG sa=true else sa=0) (hsb:if u4=true then FG sb=true else sb=0) (him:if u5=true then Bc imm=true else imm=0):Dr np n op dst a b sa sb imm=0:=by
 unfold Dr
 rw [hu]
 dsimp only
 rw [if_neg (by decide),if_neg (not_not_intro hd)]
 cases u1 <;> cases u2 <;> cases u3 <;> cases u4 <;> cases u5 <;> simp_all
theorem Asp (he:Bl ps bs os=0):∀ o∈os,0≤o∧o<(bs.length:Int):=fun o ho=>by
 have h1:=(LS he).2.1
 unfold Er at h1
 rw [AI] at h1
 by_cases h2:Ah (ps.map DW)=0
 ·rw [if_pos h2,AI] at h1
  by_cases h3:Ah (bs.map (BQ ps.length bs.length))=0
  ·rw [if_pos h3] at h1
   have h4:=Cu h1 _ (List.mem_map.2 ⟨o,ho,rfl⟩)
   unfold NC at h4
   by_cases h5:0≤o∧o<(bs.length:Int)
   ·exact h5
   ·rw [if_neg h5] at h4;cases h4
  ·rw [if_neg h3] at h1;exact absurd h1 h3
 ·rw [if_neg h2] at h1;exact absurd h1 h2
section
variable {ps:List Prt} {bs:List Bk} {os F:List Int}
theorem Aqm (he:Bl ps bs os=0) {j:Nat} (hjn:j<bs.length) (hk2:AG bs j≠2) (hsh:(Fb ps bs F j (AM bs j)).all AgE=true):∀ x∈Fb ps bs F j (AM bs j),Ins.err ps.length (Cv bs F).length x=0:=by
 obtain ⟨y,hy⟩:∃ y,bs[j]?=some y:=⟨_,gE hjn⟩
 have hac:=Cl he hy
 have hYA:=Di hy
 have hYK:=Ck hy
 have hM:=Ib bs F
 have sh:∀ x∈Fb ps bs F j (AM bs j),FG x.sa=true∧FG x.sb=true:=fun x hx=>by
  have:=of_decide_eq_true (List.all_eq_true.1 hsh x hx)
  exact ⟨decide_eq_true ⟨this.1,this.2.1⟩,decide_eq_true this.2.2⟩
 rw [hYK] at hk2
 have hjd:(0:Int)≤(j:Int)∧(j:Int)<((Cv bs F).length:Int):=by omega
 have args:∀ i a,y.args[i]?=some a→0≤a∧a<(Cn ps.length bs.length y.kind:Int):=fun i a h=>hac.2.2 a (gM h)
 have c11:y.kind=11→0≤AM bs j∧AM bs j+1<((Cv bs F).length:Int):=fun k11=>by
  have hrk:=Nq hjn (hYK.trans k11)
  unfold AM
  rw [hYK,if_neg (by omega),if_pos k11]
  omega
 have one:∀ n:Nat,((y.args.length:Nat):Int)=AO y.kind→AO y.kind=n→∀ i,i<n→∃ a,y.args[i]?=some a:=fun n h1 h2 i hi=>⟨_,gE (by omega)⟩
 intro x hx
 have hs:=sh x hx
 clear sh hsh
 unfold Fb at hx
 dsimp only at hx
 rw [hYA] at hx
 unfold Ins.err
 have a0:1≤y.args.length→∃ a,y.args[0]?=some a∧Bt y=a:=fun h=>by
  obtain ⟨a,ha⟩:∃ a,y.args[0]?=some a:=⟨_,gE (by omega)⟩
  exact ⟨a,ha,by unfold Bt;rw [ha];rfl⟩
 have a1:2≤y.args.length→∃ a,y.args[1]?=some a∧FP y=a:=fun h=>by
  obtain ⟨a,ha⟩:∃ a,y.args[1]?=some a:=⟨_,gE (by omega)⟩
  exact ⟨a,ha,by unfold FP;rw [ha];rfl⟩
 have hM0:y.kind≠0→Cn ps.length bs.length y.kind=bs.length:=fun h=>if_neg h
 have har:=hac.2.1
 have hge:=hac.1
 by_cases k0:y.kind=0
 ·rw [if_pos k0] at hx
  obtain ⟨a,h1,h2⟩:=a0 (by rw [k0] at har;simp [AO] at har;omega)
  have h3:=args 0 a h1
  rw [show Cn ps.length bs.length y.kind=ps.length from if_pos k0] at h3
  simp only [ik] at hx
  subst hx
  exact IM (u1:=true) (u2:=false) (u3:=true) (u4:=false) (u5:=false) rfl hjd (by simpa [h2] using h3) rfl hs.1 rfl rfl
 rw [if_neg k0] at hx
 have hm:=hM0 k0
 by_cases k1:y.kind=1
 ·rw [if_pos k1] at hx
  simp only [ik] at hx
  subst hx
  exact IM (u1:=false) (u2:=false) (u3:=false) (u4:=false) (u5:=true) rfl hjd rfl rfl rfl rfl (Fg _ _ _)
 rw [if_neg k1] at hx
 obtain ⟨a,h1,h2⟩:=a0 (by unfold AO at har hge;(repeat' split at har) <;> omega)
 have h3:=args 0 a h1
 rw [hm] at h3
 by_cases k6:y.kind=6
 ·rw [if_pos k6] at hx
  have hv:=Mn he hy (by rw [k6];rfl)
  unfold Df at hv
  simp only [ik] at hx
  subst hx
  exact IM (u1:=true) (u2:=false) (u3:=true) (u4:=false) (u5:=true) rfl hjd (by show 0≤Bt y∧Bt y<(if (6:Int)=0 then (ps.length:Int) else ((Cv bs F).length:Int));rw [h2,if_neg (by decide)];omega) rfl hs.1 rfl (decide_eq_true ⟨by show -2147483648≤y.vn;omega,hv.2.1⟩)
 rw [if_neg k6] at hx
 by_cases k7:y.kind=7
 ·rw [if_pos k7] at hx
  obtain ⟨b,g1,g2⟩:=a1 (by rw [k7] at har;simp [AO] at har;omega)
  have g3:=args 1 b g1
  rw [hm] at g3
  simp only [ik] at hx
  subst hx
  exact IM (u1:=true) (u2:=true) (u3:=true) (u4:=false) (u5:=false) rfl hjd (by show 0≤Bt y∧Bt y<(if (7:Int)=0 then (ps.length:Int) else ((Cv bs F).length:Int));rw [h2,if_neg (by decide)];omega) (by show 0≤FP y∧FP y<((Cv bs F).length:Int);rw [g2];omega) hs.1 rfl rfl
 rw [if_neg k7] at hx
 by_cases k11:y.kind=11
 ·rw [if_pos k11] at hx
  have hc:=c11 k11
  simp only [bo,bp,or_false] at hx
  rcases hx with rfl|rfl
  ·exact IM (u1:=true) (u2:=true) (u3:=true) (u4:=true) (u5:=false) rfl hjd (by show 0≤Bt y∧Bt y<(if (9:Int)=0 then (ps.length:Int) else ((Cv bs F).length:Int));rw [h2,if_neg (by decide)];omega) (by show 0≤AM bs j∧AM bs j<((Cv bs F).length:Int);omega) hs.1 rfl rfl
  ·exact IM (u1:=true) (u2:=true) (u3:=true) (u4:=true) (u5:=false) rfl hjd (by show 0≤(j:Int)∧(j:Int)<(if (8:Int)=0 then (ps.length:Int) else ((Cv bs F).length:Int));rw [if_neg (by decide)];exact hjd) (by show 0≤AM bs j+1∧AM bs j+1<((Cv bs F).length:Int);omega) rfl rfl rfl
 rw [if_neg k11] at hx
 by_cases hl2:y.args.length=2
 ·rw [if_pos hl2] at hx
  obtain ⟨b,g1,g2⟩:=a1 (by omega)
  have g3:=args 1 b g1
  rw [hm] at g3
  simp only [ik] at hx
  subst hx
  have hk:y.kind=3∨y.kind=4∨y.kind=8∨y.kind=9:=by
   unfold AO at har
   (repeat' split at har) <;> omega
  have hop:opM y.kind=3∨opM y.kind=4∨opM y.kind=8∨opM y.kind=9:=by rcases hk with h|h|h|h <;> rw [h] <;> decide
  have hus:Cw (opM y.kind)=(true,true,true,true,false,true):=by rcases hop with h|h|h|h <;> rw [h] <;> rfl
  exact IM (u1:=true) (u2:=true) (u3:=true) (u4:=true) (u5:=false) hus hjd (by show 0≤Bt y∧Bt y<(if opM y.kind=0 then (ps.length:Int) else ((Cv bs F).length:Int));rw [h2,if_neg (by omega)];omega) (by show 0≤FP y∧FP y<((Cv bs F).length:Int);rw [g2];omega) hs.1 hs.2 rfl
 rw [if_neg hl2] at hx
 simp only [ik] at hx
 subst hx
 have hk:y.kind=5∨y.kind=10:=by
  clear hge h1 h2 h3 hs a0 a1 args c11 one
  unfold AO at har
  (repeat' split at har) <;> omega
 have hop:opM y.kind=5∨opM y.kind=10:=by rcases hk with h|h <;> rw [h] <;> decide
 have hus:Cw (opM y.kind)=(true,false,true,false,false,true):=by rcases hop with h|h <;> rw [h] <;> rfl
 exact IM (u1:=true) (u2:=false) (u3:=true) (u4:=false) (u5:=false) hus hjd (by show 0≤Bt y∧Bt y<(if opM y.kind=0 then (ps.length:Int) else ((Cv bs F).length:Int));rw [h2,if_neg (by omega)];omega) rfl hs.1 rfl rfl
theorem Amm (he:Bl ps bs os=0) (hsh:(Cg ps bs F).all AgE=true):Ci ps (Cv bs F) (Cg ps bs F) os=0:=by
 have hsz:=ZW he
 unfold Ek at hsz
 have hM:=Ib bs F
 have h2:=UU bs bs.length
 have hdl:=We bs bs.length
 have hcl:=Wf bs bs.length
 have hcd:=WC (ps:=ps) (bs:=bs) (F:=F) (dlK bs bs.length).length
 rw [WB] at hcd
 have hol:(BH bs).length+(dlK bs bs.length).length≤bs.length:=Aml bs
 unfold Ci
 rw [if_neg (not_not_intro ⟨by omega,by omega,by omega,by omega⟩)]
 refine Ml fun z hz=>?_
 rcases List.mem_append.1 hz with h|h
 ·obtain ⟨p,hp,rfl⟩:=List.mem_map.1 h
  obtain ⟨i,hi⟩:=List.mem_iff_getElem?.1 hp
  have h1:=Mo he hi
  unfold DW at h1
  by_cases h3 : -2147483648≤p.lo∧p.lo≤p.hi∧p.hi<2147483648∧0≤p.fr∧p.fr≤30
  ·unfold Lr
   rw [if_pos ⟨decide_eq_true (by omega),decide_eq_true (by omega),by omega,by omega,by omega⟩]
  ·rw [if_neg h3] at h1;cases h1
 rcases List.mem_append.1 h with h|h
 ·obtain ⟨x,hx,rfl⟩:=List.mem_map.1 h
  unfold Qc
  rw [if_pos (Rx hx)]
 rcases List.mem_append.1 h with h|h
 ·obtain ⟨x,hx,rfl⟩:=List.mem_map.1 h
  have hx0:=hx
  have hxs:=of_decide_eq_true (List.all_eq_true.1 hsh x hx)
  unfold Cg at hx
  rcases List.mem_append.1 hx with hx|hx
  ·rcases List.mem_append.1 hx with hx|hx
   ·obtain ⟨j,hj,hx⟩:=List.mem_flatMap.1 hx
    obtain ⟨i,hi⟩:=List.mem_iff_getElem?.1 hj
    obtain ⟨hjn,hk2⟩:=Rh hi
    refine Aqm he hjn hk2 (List.all_eq_true.2 fun y hy=>List.all_eq_true.1 hsh y ?_) x hx
    unfold Cg
    exact List.mem_append_left _ (List.mem_append_left _ (List.mem_flatMap.2 ⟨j,hj,hy⟩))
   ·obtain ⟨j,hj,rfl⟩:=List.mem_map.1 hx
    obtain ⟨i,hi⟩:=List.mem_iff_getElem?.1 hj
    obtain ⟨hjn,hk2,hrk⟩:=PR.1 hi
    have hrl:=Np hjn hk2
    obtain ⟨y,hy⟩:∃ y,bs[j]?=some y:=⟨_,gE hjn⟩
    have hac:=Cl he hy
    rw [Ck hy] at hk2
    have hyl:y.args.length=1:=by have h:=hac.2.1;rw [hk2] at h;simp [AO] at h;omega
    obtain ⟨a,ha⟩:∃ a,y.args[0]?=some a:=⟨_,gE (by omega)⟩
    have hr:=hac.2.2 a (gM ha)
    rw [show Cn ps.length bs.length y.kind=bs.length from if_neg (by omega)] at hr
    have hg:Bt (PF bs j)=a:=by rw [Di hy];unfold Bt;rw [ha];rfl
    have hc:AM bs j=(bs.length:Int)+(IE (dlB bs) j:Int):=by unfold AM;rw [Ck hy,if_pos hk2]
    refine IM (u1:=true) (u2:=false) (u3:=true) (u4:=false) (u5:=false) rfl ?_ ?_ rfl (decide_eq_true ⟨hxs.1,hxs.2.1⟩) rfl rfl
    ·show 0≤AM bs j∧AM bs j<((Cv bs F).length:Int)
     rw [hc]
     omega
    ·show 0≤Bt (PF bs j)∧Bt (PF bs j)<(if (2:Int)=0 then (ps.length:Int) else ((Cv bs F).length:Int))
     rw [hg,if_neg (by decide)]
     omega
  ·obtain ⟨j,hj,rfl⟩:=List.mem_map.1 hx
   obtain ⟨i,hi⟩:=List.mem_iff_getElem?.1 hj
   obtain ⟨hjn,hk2,hrk⟩:=PR.1 hi
   have hrl:=Np hjn hk2
   have hc:AM bs j=(bs.length:Int)+(IE (dlB bs) j:Int):=by unfold AM;rw [if_pos hk2]
   refine IM (u1:=true) (u2:=false) (u3:=true) (u4:=false) (u5:=false) rfl ?_ ?_ rfl rfl rfl rfl
   ·show 0≤(j:Int)∧(j:Int)<((Cv bs F).length:Int)
    omega
   ·show 0≤AM bs j∧AM bs j<(if (2:Int)=0 then (ps.length:Int) else ((Cv bs F).length:Int))
    rw [hc,if_neg (by decide)]
    omega
 ·obtain ⟨o,ho,rfl⟩:=List.mem_map.1 h
  have:=Asp he o ho
  unfold Qd
  rw [if_pos ⟨this.1,by omega⟩]
end
theorem Aep (h:GX ps bs F=0):(Cg ps bs F).all AgE=true:=by
 unfold GX at h
 by_cases h1:F.length=bs.length
 ·rw [if_neg (not_not_intro h1)] at h
  by_cases h2:F.all GW=true
  ·rw [if_neg (not_not_intro h2)] at h
   by_cases h3:Ah ((List.range bs.length).map (IC bs F))=0
   ·rw [if_neg (not_not_intro h3)] at h
    by_cases h4:(Cg ps bs F).all AgE=true
    ·exact h4
    ·rw [if_neg h4] at h;cases h
   ·rw [if_pos h3] at h;exact absurd h h3
  ·rw [if_pos h2] at h;cases h
 ·rw [if_pos h1] at h;cases h
theorem YM (t:Bool) {ps:List Prt} {is:List Int} {xs:List Ins} {os:List Int} (l1:ps.length≤1000000) (l2:is.length≤1000000) (l3:xs.length≤1000000) (l4:os.length≤1000000) (h0:Ci ps is xs os=0):CV prog An 119 [WA t ps is xs os] [aE 0]:=fun w S vs hg hlt ha=>by
 obtain ⟨v,rfl,hv⟩:=BI ha
 obtain ⟨ys,rfl,hl0⟩:=hv
 obtain ⟨v0,x1,rfl,q0,h⟩:=AV.uncons hl0
 obtain ⟨v1,x2,rfl,q1,h⟩:=h.uncons
 obtain ⟨v2,x3,rfl,q2,h⟩:=h.uncons
 obtain ⟨v3,x4,rfl,q3,h⟩:=h.uncons
 have:=h.unnil
 subst this
 unfold Dh at q0
 rw [Nb Ue] at q0
 unfold AaG at q2
 rw [Nb Ace] at q2
 obtain ⟨A1,c1,rfl,_,_,_,k1⟩:=Si hlt q0
 obtain ⟨A2,c2,rfl,_,_,k2⟩:=Ud hlt q1
 obtain ⟨A3,c3,rfl,_,_,_,k3⟩:=Si hlt q2
 obtain ⟨A4,c4,rfl,_,_,k4⟩:=Ud hlt q3
 refine (Cd.Check_any A1 A2 A3 A4 ps is xs os c1 c2 c3 c4 _ w (aa _) k1 k2 k3 k4).mono fun e w' ⟨he,hb⟩=>?_
 rw [h0] at he
 exact ⟨_,he,Bh.val (XM _),hb⟩
theorem Amn {P:Program} {G:World→Prop} {N:Nat} {x y:Code} {F:Frm} {H:List Ob} {Q:Te} (K:Frm→List Ob→Prop) (h:CW P G N x F H (RQ (wkC N K) Q)) (k:∀ F' H',K F' H'→CW P G N y F' H' Q):CW P G N x F H (RQ (fun F' H'=>CW P G N y F' H' Q) Q) :=
 AjU h fun e F H h3=>by
  cases e with
  | normal =>
   obtain ⟨F3,H3,k4,hK⟩:=h3
   exact Bi k4 (k _ _ hK)
  | _=>exact h3
theorem UV (n:Int):CVF prog An 120 [aI n] [aB (Bc n)]:=fun w S vs hg hlt ha=>by
 obtain ⟨u,hu,h2⟩:=BI ha
 subst hu
 cases h2
 refine (Hf n w).mono fun r w' ⟨he,hw⟩=>?_
 subst hw
 exact ⟨_,he,Bh.val rfl,ab _ _⟩
theorem BS (x:Int) {k:Int} (h1 : -62≤k) (h2:k≤30):CVF prog An 121 [aI x,aI k] [aI (scl x k)]:=fun w S vs hg hlt ha=>by
 obtain ⟨v,vs',rfl,q1,ha⟩:=ha.uncons
 obtain ⟨u,hu,q2⟩:=BI ha
 subst hu
 cases q1
 cases q2
 refine (Aaj x k w h1 h2).mono fun r w' ⟨he,hw⟩=>?_
 subst hw
 exact ⟨_,he,Bh.val rfl,ab _ _⟩
def Gz (x:Ins) (cs inn:List Int):Int :=
 if x.op=0 then scl (inn[x.a.toNat]?.getD 0) x.sa
 else if x.op=1 then x.imm
 else if x.op=2 then scl (cs[x.a.toNat]?.getD 0) x.sa
 else if x.op=3 then scl (cs[x.a.toNat]?.getD 0) x.sa+scl (cs[x.b.toNat]?.getD 0) x.sb
 else if x.op=4 then scl (cs[x.a.toNat]?.getD 0) x.sa - scl (cs[x.b.toNat]?.getD 0) x.sb
 else if x.op=5 then -scl (cs[x.a.toNat]?.getD 0) x.sa
 else if x.op=6 then scl (cs[x.a.toNat]?.getD 0*x.imm) x.sa
 else if x.op=7 then scl (cs[x.a.toNat]?.getD 0*cs[x.b.toNat]?.getD 0) x.sa
 else if x.op=8 then min (scl (cs[x.a.toNat]?.getD 0) x.sa) (scl (cs[x.b.toNat]?.getD 0) x.sb)
 else if x.op=9 then max (scl (cs[x.a.toNat]?.getD 0) x.sa) (scl (cs[x.b.toNat]?.getD 0) x.sb)
 else max (scl (cs[x.a.toNat]?.getD 0) x.sa) (-scl (cs[x.a.toNat]?.getD 0) x.sa)
section
variable {x:Ins} {cs inn:List Int} {w y:Int}
theorem Aqn (h:x.op=0) (hw:inn[x.a.toNat]?=some w):Gz x cs inn=scl w x.sa:=by simp [Gz,h,hw]
theorem YN (h:x.op=1):Gz x cs inn=x.imm:=by simp [Gz,h]
theorem SN (h:x.op=2) (hw:cs[x.a.toNat]?=some w):Gz x cs inn=scl w x.sa:=by simp [Gz,h,hw]
theorem AiT (h:x.op=3) (hw:cs[x.a.toNat]?=some w) (hy:cs[x.b.toNat]?=some y):Gz x cs inn=scl w x.sa+scl y x.sb:=by simp [Gz,h,hw,hy]
theorem AiU (h:x.op=4) (hw:cs[x.a.toNat]?=some w) (hy:cs[x.b.toNat]?=some y):Gz x cs inn=scl w x.sa - scl y x.sb:=by simp [Gz,h,hw,hy]
theorem AiV (h:x.op=5) (hw:cs[x.a.toNat]?=some w):Gz x cs inn = -scl w x.sa:=by simp [Gz,h,hw]
theorem Aeq (h:x.op=6) (hw:cs[x.a.toNat]?=some w):Gz x cs inn=scl (w*x.imm) x.sa:=by simp [Gz,h,hw]
theorem AiW (h:x.op=7) (hw:cs[x.a.toNat]?=some w) (hy:cs[x.b.toNat]?=some y):Gz x cs inn=scl (w*y) x.sa:=by simp [Gz,h,hw,hy]
theorem Aer (h:x.op=8) (hw:cs[x.a.toNat]?=some w) (hy:cs[x.b.toNat]?=some y):Gz x cs inn=min (scl w x.sa) (scl y x.sb):=by simp [Gz,h,hw,hy]
theorem Aes (h:x.op=9) (hw:cs[x.a.toNat]?=some w) (hy:cs[x.b.toNat]?=some y):Gz x cs inn=max (scl w x.sa) (scl y x.sb):=by simp [Gz,h,hw,hy]
theorem AiX (h:x.op=10) (hw:cs[x.a.toNat]?=some w):Gz x cs inn=max (scl w x.sa) (-scl w x.sa):=by simp [Gz,h,hw]
end
def Ahx (n:Int):Int:=max (-2147483648) (min n 2147483647)
theorem WK (h:Bc n=true):Ahx n=n:=by have:=EF h;unfold Ahx;omega
theorem Ns (n:Int):Bc (Ahx n)=true:=by unfold Bc Ahx;rw [decide_eq_true_eq];omega
def De (inn:List Int) (st:List Int × Bool) (x:Ins):List Int × Bool:=(st.1.set x.dst.toNat (Ahx (Gz x st.1 inn)),st.2 || !Bc (Gz x st.1 inn))
def Gk (inn:List Int) (xs:List Ins) (cs:List Int):List Int × Bool:=xs.foldl (De inn) (cs,false)
theorem Aet (inn:List Int) (xs:List Ins) (x:Ins) (cs:List Int):Gk inn (xs++[x]) cs=De inn (Gk inn xs cs) x:=by simp [Gk,fo]
theorem Aeu {cs:List Int} {k:Nat} {x:Ins} (h:xs[k]?=some x):Gk inn (xs.take (k+1)) cs=((Gk inn (xs.take k) cs).1.set x.dst.toNat (Ahx (Gz x (Gk inn (xs.take k) cs).1 inn)),(Gk inn (xs.take k) cs).2 || !Bc (Gz x (Gk inn (xs.take k) cs).1 inn)):=by
 rw [aw,h]
 exact Aet _ _ _ _
theorem SO (inn:List Int) (xs:List Ins) (cs:List Int):(Gk inn xs cs).1.length=cs.length:=by
 unfold Gk
 suffices h:∀ (l:List Ins) (st:List Int × Bool),(l.foldl (De inn) st).1.length=st.1.length from h xs (cs,false)
 intro l
 induction l with
 | nil=>exact fun _=>rfl
 | cons x l ih =>
  intro st
  rw [jw,ih]
  simp [De]
theorem Ry {cs:List Int} (h:∀ z∈cs,Bc z=true):∀ z∈(Gk inn xs cs).1,-2147483648≤z∧z<2147483648:=by
 suffices hh:∀ (l:List Ins) (st:List Int × Bool),(∀ z∈st.1,Bc z=true)→∀ z∈(l.foldl (De inn) st).1,Bc z=true from fun z hz=>EF (hh xs (cs,false) h z hz)
 intro l
 induction l with
 | nil=>exact fun _ h=>h
 | cons x l ih =>
  intro st hst
  refine ih _ fun z hz=>?_
  rcases kj hz with hz|rfl
  ·exact hst z hz
  ·exact Ns _
def Ls (C os:List Int):List Int:=os.map fun o=>C[o.toNat]?.getD 0
theorem Aaq {C:List Int} {k:Nat} {o w:Int} (h:os[k]?=some o) (hw:C[o.toNat]?=some w):Ls C (os.take (k+1))=Ls C (os.take k)++[w]:=by
 rw [aw,h]
 simp [Ls,hw]
theorem Aev (C os:List Int) (k:Nat):(Ls C (os.take k)).length≤k:=by simp [Ls];omega
theorem Aew {x y:Int} (x0 : -2147483648≤x) (x1:x<2147483648) (y0 : -2147483648≤y) (y1:y<2147483648) : -9223372036854775808≤x*y∧x*y≤9223372036854775807:=by
 have h:(x*y).natAbs≤2147483648*2147483648:=by
  rw [ff]
  exact dw (by omega) (by omega)
 omega
theorem Fh {x k:Int} (x0 : -2147483648≤x) (x1:x<2147483648) (h1 : -62≤k) (h2:k≤30) : -2305843009213693952≤scl x k∧scl x k≤2305843009213693952:=by
 unfold scl
 split
 ·have:=Rd (x:=x) (-k).toNat
  omega
 ·rw [show max (-4294967296) (min x 4294967296)=x by omega]
  have h:(x*2 ^ k.toNat).natAbs≤2147483648*2 ^ 30:=by
   rw [ff,fx]
   exact dw (by omega) (ax (by decide) (by omega))
  omega
theorem SQ {is:List Int} (h:Ci ps is xs os=0):ps.length≤16∧is.length≤192∧xs.length≤256∧os.length≤16:=cw fun hn=>by
 unfold Ci at h
 rw [if_pos hn] at h
 cases h
theorem Qe {is:List Int} (h:Ci ps is xs os=0):∀ e∈ps.map Lr++(is.map Qc++(xs.map (Ins.err ps.length is.length)++os.map (Qd is.length))),e=0:=by
 have hl:=SQ h
 unfold Ci at h
 rw [if_neg (not_not_intro hl)] at h
 exact Cu h
theorem Aex {is:List Int} {k:Nat} {o:Int} (h:Ci ps is xs os=0) (ho:os[k]?=some o):0≤o∧o<is.length:=by
 have:=Qe h (Qd is.length o) (by simp only [eh,iy];exact .inr (.inr (.inr ⟨o,gM ho,rfl⟩)))
 unfold Qd at this
 exact cw fun hn=>by rw [if_neg hn] at this;cases this
theorem Aey {is:List Int} {k:Nat} {x:Ins} (h:Ci ps is xs os=0) (hx:xs[k]?=some x) :
  (x.op=0∨x.op=1∨x.op=2∨x.op=3∨x.op=4∨x.op=5∨x.op=6∨x.op=7∨x.op=8∨x.op=9∨x.op=10)∧0≤x.dst∧x.dst<is.length ∧
  (x.op≠1→0≤x.a∧x.a<(if x.op=0 then (ps.length:Int) else is.length) ∧ -62≤x.sa∧x.sa≤30) ∧
  ((x.op=3∨x.op=4∨x.op=7∨x.op=8∨x.op=9)→0≤x.b∧x.b<is.length∧(x.op≠7 → -62≤x.sb∧x.sb≤30)) ∧
  ((x.op=1∨x.op=6) → -2147483648≤x.imm∧x.imm<2147483648):=by
 have h0:Dr ps.length is.length x.op x.dst x.a x.b x.sa x.sb x.imm=0:=Qe h (Ins.err ps.length is.length x) (by simp only [eh,iy];exact .inr (.inr (.inl ⟨x,gM hx,rfl⟩)))
 have hu:(Cw x.op).2.2.2.2.2=true:=by
  cases hb:(Cw x.op).2.2.2.2.2 with
  | true=>rfl
  | false=>unfold Dr at h0;rw [if_pos hb] at h0;cases h0
 have hop:x.op=0∨x.op=1∨x.op=2∨x.op=3∨x.op=4∨x.op=5∨x.op=6∨x.op=7∨x.op=8∨x.op=9∨x.op=10:=by
  unfold Cw at hu
  (repeat' split at hu) <;> first|omega|(simp at hu)
 have sh:∀ n:Int,¬ (FG n=false) → -62≤n∧n≤30:=fun n hn=>by
  have:FG n=true:=by cases hb:FG n with|true=>rfl|false=>exact absurd hb hn
  simpa [FG] using this
 have si:∀ n:Int,¬ (Bc n=false) → -2147483648≤n∧n<2147483648:=fun n hn=>by
  have:Bc n=true:=by cases hb:Bc n with|true=>rfl|false=>exact absurd hb hn
  exact EF this
 unfold Dr at h0
 rw [if_neg (by rw [hu];decide)] at h0
 by_cases c1:¬ (0≤x.dst∧x.dst<is.length)
 ·rw [if_pos c1] at h0;cases h0
 rw [if_neg c1] at h0
 by_cases c2:(Cw x.op).1=true∧¬ (0≤x.a∧x.a<(if x.op=0 then (ps.length:Int) else is.length))
 ·rw [if_pos c2] at h0;cases h0
 rw [if_neg c2] at h0
 by_cases c3:(Cw x.op).2.1=true∧¬ (0≤x.b∧x.b<is.length)
 ·rw [if_pos c3] at h0;cases h0
 rw [if_neg c3] at h0
 by_cases c4:(Cw x.op).2.2.1=true∧FG x.sa=false
 ·rw [if_pos c4] at h0;cases h0
 rw [if_neg c4] at h0
 by_cases c5:(Cw x.op).2.2.2.1=true∧FG x.sb=false
 ·rw [if_pos c5] at h0;cases h0
 rw [if_neg c5] at h0
 by_cases c6:(Cw x.op).2.2.2.2.1=true∧Bc x.imm=false
 ·rw [if_pos c6] at h0;cases h0
 have c1':=Classical.not_not.1 c1
 refine ⟨hop,c1'.1,c1'.2,fun h1=>?_,fun h1=>?_,fun h1=>?_⟩
 ·have ua:(Cw x.op).1=true∧(Cw x.op).2.2.1=true:=by rcases hop with h|h|h|h|h|h|h|h|h|h|h <;> first|exact absurd h h1|(rw [h];exact ⟨rfl,rfl⟩)
  have ha:0≤x.a∧x.a<(if x.op=0 then (ps.length:Int) else is.length):=cw fun hn=>c2 ⟨ua.1,hn⟩
  have hs:=sh x.sa fun hn=>c4 ⟨ua.2,hn⟩
  exact ⟨ha.1,ha.2,hs.1,hs.2⟩
 ·have ub:(Cw x.op).2.1=true:=by rcases h1 with h|h|h|h|h <;> (rw [h];rfl)
  have hb:0≤x.b∧x.b<is.length:=cw fun hn=>c3 ⟨ub,hn⟩
  refine ⟨hb.1,hb.2,fun h7=>sh x.sb fun hn=>c5 ⟨?_,hn⟩⟩
  rcases h1 with h|h|h|h|h <;> first|exact absurd h h7|(rw [h];rfl)
 ·have ui:(Cw x.op).2.2.2.2.1=true:=by rcases h1 with h|h <;> (rw [h];rfl)
  exact si x.imm fun hn=>c6 ⟨ui,hn⟩
theorem Hg (k:p') (h:Hd9 p'→p:=by with_reducible first|(intro Z9;refine Tx 26 ?_;refine gO xEq <| gO xA ?_;exact Z9.o)|fail):p:=h ⟨k⟩
theorem IO (k:p') (h:Hd9 p'→p:=by with_reducible first|(intro Z9;refine Tx 28 ?_;refine gO xEq <| gO xA ?_;exact Z9.o)|fail):p:=h ⟨k⟩
theorem Aar (h:p:=by first|exact xNt|exact xNg):p:=h
theorem AiY (k:p') (h:Hd9 p'→p:=by with_reducible first|(intro Z9;refine Tx 49 ?_;refine gO xM <| gO (xCl func120 (SH.cv)) <| gO Aar ?_;exact Z9.o)|(intro Z9;refine Tx 52 ?_;refine gO xF <| gO xD <| gO xF <| gO xD <| gO xM <| gO (by exact Fw (i:=x.dst.toNat) rfl rfl rfl rfl (by omega) Af (by omega) (by decide)) <| gZ (by first|exact Pm rfl rfl rfl rfl Ak tl st|exact xS1 Ak|exact xSk Ak) ?_;exact Z9.o)|(intro Z9;refine Tx 53 ?_;refine gO xAd <| gO xM ?_;exact Z9.o)|fail):p:=h ⟨k⟩
theorem AiZ (h:p:=by
 refine ⟨_,_,BE 4 (hH:=by rw [hO2];rfl),_,?_,k+1,by omega,rfl,rfl,rfl⟩
 ·omega):p:=h
theorem Aja (h:p:=by
 refine ⟨_,_,BE 2,_,?_,k+1,by omega,rfl,rfl,rfl⟩
 ·omega):p:=h
theorem QB (h:p:=by first|exact Fw (i:=x.a.toNat) rfl rfl rfl rfl (by omega) Af (by omega) (by decide)|exact Fw (i:=x.b.toNat) rfl rfl rfl rfl (by omega) Af (by omega) (by decide)):p:=h
theorem Aqo (h:p:=by first|exact xIr Af (AF ho)|exact Fw (i:=o.toNat) rfl rfl rfl rfl (by omega) Af (by omega) (by decide)):p:=h
theorem Aqp (h:p:=by first|exact Ht rfl rfl rfl hm|exact Ht rfl rfl rfl (by omega)):p:=h
theorem UW (h:p:=by first|exact xCl func121 (SA.cv)|exact xCl func121 (SB.cv)):p:=h
theorem QC (h:p:=by first|exact xLi hw Ak|exact xLi hy Ak|exact xLd Ak):p:=h
theorem Aas (h:p:=by first|exact xLi hw Ak|exact xLd Ak):p:=h
theorem Aqq (t u v:Bool) {ps:List Prt} {is:List Int} {xs:List Ins} {os cs inn:List Int} (hp:Ci ps is xs os=0) (hcl:cs.length=is.length) (hs:∀ z∈cs,Bc z=true) (hil:inn.length=ps.length) (hr:∀ (k:Nat) (p:Prt) (z:Int),ps[k]?=some p→inn[k]?=some z→p.lo≤z∧z≤p.hi) :
  CV prog An 48 [WA t ps is xs os,.one (Ba u cs),.one (Ba v inn)] [.agg [Ba false (Gk inn xs cs).1,Ba false (Ls (Gk inn xs cs).1 os),.val (.bool (Gk inn xs cs).2)],aE 0]:=by
 refine cvz func48 ntmps48 ?_
 obtain ⟨hp1,hi1,hx1,ho1⟩:=SQ hp
 have CK:=YM t (lT hp1 (by decide)) (lT hi1 (by decide)) (lT hx1 (by decide)) (lT ho1 (by decide)) hp
 repeat' (with_reducible first|refine qq ?_|(refine Tx 0 ?_;refine gN xBo <| gN (xAl Na) <| gO xA ?_)|(refine Tx 1 ?_;refine gO xL <| gO (xCl func119 (CK)) <| gO xA ?_)|(refine Tx 2 ?_;refine gO xM <| gO (xNE Ap) ?_)|(refine Tx 4 ?_;refine gO xM <| gO xN <| gO xF <| gO xD <| gO xN <| gO xNe ?_)|(refine Tx 6 ?_;refine gO xM <| gO xN <| gO xM ?_))
 refine Bi (BE 2) (Aq (fun n Fr H=>∃ k:Nat,k≤cs.length∧n=cs.length - k∧Fr=ofL [(1,vd (Ba u cs)),(2,vd (Ba v inn)),(3,vr 0),(6,vr 1),(33,vd (Ba u cs)),(34,vi cs.length),(35,vi ((k:Nat)))]∧H=[.box 94 [.d (Dh t ps),.d (Ba t is),.d (AaG t xs),.d (Ba t os)],.box 99 [.d (.val (.slice none 0 0)),.d (.val (.slice none 0 0)),.d (.val (.bool false))]]) (n0:=cs.length) ⟨0,ad _,rfl,rfl,rfl⟩ ?_)
 rintro n Fr H ⟨k,hk,rfl,rfl,rfl⟩
 by_cases hlt:k<cs.length
 case pos =>
  obtain ⟨z,hz⟩:∃ z,cs[k]?=some z:=⟨_,gE hlt⟩
  have SH:=UV z
  rw [hs z (gM hz)] at SH
  repeat' (with_reducible first|refine qq ?_|(refine Tx 7 ?_;refine gO xLt ?_)|(refine Tx 8 ?_;refine gO (xIr Af (AF hz)) <| gO xD <| gO xA ?_)|(refine Tx 9 ?_;refine gO xM <| gO (xCl func120 (SH.cv)) <| gO Aar ?_)|(refine Tx 11 ?_;refine gO xAd <| gO xM ?_))
  exact Aja
 repeat' (with_reducible first|refine qq ?_|(refine Tx 7 ?_;refine gO xLt ?_)|(refine Tx 12 ?_;refine gO xM <| gO xN <| gO xF <| gO xD <| gO xN <| gO xNe ?_)|(refine Tx 14 ?_;refine gO xM <| gO xN <| gO xM ?_))
 refine Bi (BE 2) (Aq (fun n Fr H=>∃ k:Nat,k≤inn.length∧n=inn.length - k∧Fr=ofL [(1,vd (Ba u cs)),(2,vd (Ba v inn)),(3,vr 0),(6,vr 1),(53,vd (Ba v inn)),(54,vi inn.length),(55,vi ((k:Nat)))]∧H=[.box 94 [.d (Dh t ps),.d (Ba t is),.d (AaG t xs),.d (Ba t os)],.box 99 [.d (.val (.slice none 0 0)),.d (.val (.slice none 0 0)),.d (.val (.bool false))]]) (n0:=inn.length) ⟨0,ad _,rfl,rfl,rfl⟩ ?_)
 clear hk
 rintro n Fr H ⟨k,hk,rfl,rfl,rfl⟩
 by_cases hlt:k<inn.length
 case pos =>
  obtain ⟨z,hz⟩:∃ z,inn[k]?=some z:=⟨_,gE hlt⟩
  obtain ⟨p,hp0⟩:∃ p,ps[k]?=some p:=⟨_,gE (by omega)⟩
  obtain ⟨hz1,hz2⟩:=hr k p z hp0 hz
  repeat' (with_reducible first|refine qq ?_|(refine Tx 15 ?_;refine gO xLt ?_)|(refine Tx 16 ?_;refine gO xM <| gO (xIr Af (AF hz)) <| gO xD <| gO xA <| gO xA ?_)|(refine Tx 17 ?_;refine gO xM <| gO xF <| gO xD <| gO xM <| gO (xIr Bv (Fy hp0)) <| gO xF <| gO xD <| gO xLt <| gO xM ?_;(first|iterate 8 refine Jd ?_|(refine Jy xM1 ?_;refine Jy (xFa Pf DB) ?_;refine Jy (xLd DB) ?_;refine Jy xM1 ?_;refine Jy (xIr Bv (Fy hp0)) ?_;refine Jy (xFa Ft Ak) ?_;refine Jy (xLd Ak) ?_;refine Jy xGt ?_));refine gO xPk ?_)|(refine Tx 19 ?_;refine gO xAd <| gO xM ?_))
  exact Aja
 clear hk
 have hc1:cs.length≤1000000:=by omega
 repeat' (with_reducible first|refine qq ?_|(refine Tx 15 ?_;refine gO xLt ?_)|(refine Tx 20 ?_;refine gN (by first|exact Ey (ps:=[]) (cs:=[]) rfl Af Bz (by decide) (by decide) rfl rfl rfl (by decide)|exact EW rfl rfl Af Bz (by decide) (by decide) (by decide) rfl rfl rfl) <| gO xM <| gT (by exact Aql rfl rfl rfl rfl Af Bz (by omega) (by decide) (by decide) (by simp) (cI_D cs).symm (bc _)) <| gO (by exact AC rfl Zr rfl rfl) <| gN (xAl Na) <| gZ (xSk DV) ?_)|(refine Tx 21 ?_;refine gO xF <| gO xD <| gO xN <| gO xM ?_))
 refine Bi (BE 4) (Aq (fun n Fr H=>∃ k:Nat,k≤xs.length∧n=xs.length - k∧Fr=ofL [(2,vd (Ba v inn)),(3,vr 0),(6,vr 1),(13,vr 3),(86,vd (AaG t xs)),(87,vi xs.length),(88,vi ((k:Nat)))]∧H=[.box 94 [.d (Dh t ps),.d (Ba t is),.d (AaG t xs),.d (Ba t os)],.box 99 [.d (.val (.slice none 0 0)),.d (.val (.slice none 0 0)),.d (.val (.bool false))],.row 3 1 cs.length (cI (Gk inn (xs.take (k)) cs).1),.box 99 [.own 2 cs.length,.d (.val (.slice none 0 0)),.d (.val (.bool (Gk inn (xs.take (k)) cs).2))]]) (n0:=xs.length) ⟨0,ad _,rfl,rfl,rfl⟩ ?_)
 rintro n Fr H ⟨k,hk,rfl,rfl,rfl⟩
 by_cases hlt:k<xs.length
 case pos =>
  obtain ⟨x,hx⟩:∃ x,xs[k]?=some x:=⟨_,gE hlt⟩
  obtain ⟨hop,hd0,hd1,hA,hB,hI⟩:=Aey hp hx
  have hst:=Aeu (inn:=inn) (cs:=cs) hx
  have hCl:(Gk inn (xs.take (k)) cs).1.length=cs.length:=SO _ _ _
  have hCs:=Ry hs (inn:=inn) (xs:=xs.take k)
  generalize hC:(Gk inn (xs.take (k)) cs).1=Z at hst hCl hCs ⊢
  generalize hO:(Gk inn (xs.take (k)) cs).2=O at hst ⊢
  repeat' (with_reducible first|refine qq ?_|(refine Tx 22 ?_;refine gO xLt ?_)|(refine Tx 23 ?_;refine gO (xIr Bn (Aif hx)) <| gO xL <| gN (xAl Ce) <| gZ (xSk Fu) ?_)|(refine Tx 24 ?_;refine gO xA ?_))
  with_reducible refine Tx 25 ?_
  with_reducible refine gO xF ?_
  with_reducible refine gO xD ?_
  with_reducible refine Je ?_
  refine qb ?_
  refine Amn (fun F' H'=>∃ V:Int,Gz x Z inn=V∧F'=ofL [(2,vd (Ba v inn)),(3,vr 0),(6,vr 1),(13,vr 3),(15,vr 4),(16,vi V),(86,vd (AaG t xs)),(87,vi xs.length),(88,vi ((k:Nat)))]∧H'=[.box 94 [.d (Dh t ps),.d (Ba t is),.d (AaG t xs),.d (Ba t os)],.box 99 [.d (.val (.slice none 0 0)),.d (.val (.slice none 0 0)),.d (.val (.bool false))],.row 3 1 cs.length (cI Z),.box 99 [.own 2 cs.length,.d (.val (.slice none 0 0)),.d (.val (.bool O))],.box 169 ((Tg x).map C.d)]) ?_ ?_
  ·
   rcases hop with h|h|h|h|h|h|h|h|h|h|h
   ·
    obtain ⟨ha0,ha1,hs0,hs1⟩:=hA (by omega)
    rw [if_pos h] at ha1
    obtain ⟨w,hw⟩:∃ w,inn[x.a.toNat]?=some w:=⟨_,gE (by omega)⟩
    have SA:=BS w hs0 hs1
    repeat' (with_reducible first|refine qq ?_|refine Hg ?_|(refine BX (id:=27) AX (by kernel_rfl) ?_;refine gP xM <| gP xF <| gP xD <| gP (xIr Af (AF hw)) <| gP xD <| gP xF <| gP xD <| gP (xCl func121 (SA.cv)) <| gP xA ?_;refine Ke ?_))
    refine ⟨_,_,BE 5,scl w x.sa,Aqn h hw,rfl,rfl⟩
   ·
    repeat' (with_reducible first|refine qq ?_|refine Hg ?_|refine IO ?_|(refine Tx 29 ?_;refine gO xF <| gO xD <| gO xA ?_))
    refine ⟨_,_,BE 5,x.imm,YN h,rfl,rfl⟩
   ·
    obtain ⟨ha0,ha1,hs0,hs1⟩:=hA (by omega)
    rw [if_neg (by omega)] at ha1
    obtain ⟨w,hw⟩:∃ w,Z[x.a.toNat]?=some w:=⟨_,gE (by omega)⟩
    obtain ⟨w0,w1⟩:=hCs w (gM hw)
    have SA:=BS w hs0 hs1
    have b1:=Fh w0 w1 hs0 hs1
    repeat' (with_reducible first|refine qq ?_|refine Hg ?_|refine IO ?_|(refine Tx 30 ?_;refine gO xEq <| gO xA ?_)|(refine BX (id:=31) AX (by kernel_rfl) ?_;refine gP xF <| gP xD <| gP xF <| gP xD <| gP (by exact Fw (i:=x.a.toNat) rfl rfl rfl rfl (by omega) Af (by omega) (by decide)) <| gP Aas <| gP xF <| gP xD <| gP (xCl func121 (SA.cv)) <| gP xA ?_;refine Ke ?_))
    refine ⟨_,_,BE 5,(scl w x.sa),SN h hw,rfl,rfl⟩
   ·
    obtain ⟨ha0,ha1,hs0,hs1⟩:=hA (by omega)
    rw [if_neg (by omega)] at ha1
    obtain ⟨w,hw⟩:∃ w,Z[x.a.toNat]?=some w:=⟨_,gE (by omega)⟩
    obtain ⟨w0,w1⟩:=hCs w (gM hw)
    obtain ⟨hb0,hb1,hbs⟩:=hB (by omega)
    obtain ⟨y,hy⟩:∃ y,Z[x.b.toNat]?=some y:=⟨_,gE (by omega)⟩
    obtain ⟨y0,y1⟩:=hCs y (gM hy)
    have SA:=BS w hs0 hs1
    have b1:=Fh w0 w1 hs0 hs1
    obtain ⟨hb2,hb3⟩:=hbs (by omega)
    have SB:=BS y hb2 hb3
    have b2:=Fh y0 y1 hb2 hb3
    repeat' (with_reducible first|refine qq ?_|refine Hg ?_|refine IO ?_|(refine Tx 30 ?_;refine gO xEq <| gO xA ?_)|(refine Tx 32 ?_;refine gO xEq <| gO xA ?_)|(refine BX (id:=33) AX (by kernel_rfl) ?_;refine gP xF <| gP xD <| gP xF <| gP xD <| gP QB <| gP QC <| gP xF <| gP xD <| gP UW <| gP xF <| gP xD <| gP xF <| gP xD <| gP QB <| gP QC <| gP xF <| gP xD <| gP UW <| gP xAd <| gP xA ?_;refine Ke ?_))
    refine ⟨_,_,BE 5,(scl w x.sa+scl y x.sb),AiT h hw hy,rfl,rfl⟩
   ·
    obtain ⟨ha0,ha1,hs0,hs1⟩:=hA (by omega)
    rw [if_neg (by omega)] at ha1
    obtain ⟨w,hw⟩:∃ w,Z[x.a.toNat]?=some w:=⟨_,gE (by omega)⟩
    obtain ⟨w0,w1⟩:=hCs w (gM hw)
    obtain ⟨hb0,hb1,hbs⟩:=hB (by omega)
    obtain ⟨y,hy⟩:∃ y,Z[x.b.toNat]?=some y:=⟨_,gE (by omega)⟩
    obtain ⟨y0,y1⟩:=hCs y (gM hy)
    have SA:=BS w hs0 hs1
    have b1:=Fh w0 w1 hs0 hs1
    obtain ⟨hb2,hb3⟩:=hbs (by omega)
    have SB:=BS y hb2 hb3
    have b2:=Fh y0 y1 hb2 hb3
    repeat' (with_reducible first|refine qq ?_|refine Hg ?_|refine IO ?_|(refine Tx 30 ?_;refine gO xEq <| gO xA ?_)|(refine Tx 32 ?_;refine gO xEq <| gO xA ?_)|(refine Tx 34 ?_;refine gO xEq <| gO xA ?_)|(refine BX (id:=35) AX (by kernel_rfl) ?_;refine gP xF <| gP xD <| gP xF <| gP xD <| gP QB <| gP QC <| gP xF <| gP xD <| gP UW <| gP xF <| gP xD <| gP xF <| gP xD <| gP QB <| gP QC <| gP xF <| gP xD <| gP UW <| gP xSb <| gP xA ?_;refine Ke ?_))
    refine ⟨_,_,BE 5,(scl w x.sa - scl y x.sb),AiU h hw hy,rfl,rfl⟩
   ·
    obtain ⟨ha0,ha1,hs0,hs1⟩:=hA (by omega)
    rw [if_neg (by omega)] at ha1
    obtain ⟨w,hw⟩:∃ w,Z[x.a.toNat]?=some w:=⟨_,gE (by omega)⟩
    obtain ⟨w0,w1⟩:=hCs w (gM hw)
    have SA:=BS w hs0 hs1
    have b1:=Fh w0 w1 hs0 hs1
    repeat' (with_reducible first|refine qq ?_|refine Hg ?_|refine IO ?_|(refine Tx 30 ?_;refine gO xEq <| gO xA ?_)|(refine Tx 32 ?_;refine gO xEq <| gO xA ?_)|(refine Tx 34 ?_;refine gO xEq <| gO xA ?_)|(refine Tx 36 ?_;refine gO xEq <| gO xA ?_)|(refine BX (id:=37) AX (by kernel_rfl) ?_;refine gP xF <| gP xD <| gP xF <| gP xD <| gP (by exact Fw (i:=x.a.toNat) rfl rfl rfl rfl (by omega) Af (by omega) (by decide)) <| gP Aas <| gP xF <| gP xD <| gP (xCl func121 (SA.cv)) <| gP Aar <| gP xA ?_;refine Ke ?_))
    refine ⟨_,_,BE 5,(-scl w x.sa),AiV h hw,rfl,rfl⟩
   ·
    obtain ⟨ha0,ha1,hs0,hs1⟩:=hA (by omega)
    rw [if_neg (by omega)] at ha1
    obtain ⟨w,hw⟩:∃ w,Z[x.a.toNat]?=some w:=⟨_,gE (by omega)⟩
    obtain ⟨w0,w1⟩:=hCs w (gM hw)
    obtain ⟨i0,i1⟩:=hI (.inr h)
    have hm:=Aew w0 w1 i0 i1
    have SA:=BS (w*x.imm) hs0 hs1
    repeat' (with_reducible first|refine qq ?_|refine Hg ?_|refine IO ?_|(refine Tx 30 ?_;refine gO xEq <| gO xA ?_)|(refine Tx 32 ?_;refine gO xEq <| gO xA ?_)|(refine Tx 34 ?_;refine gO xEq <| gO xA ?_)|(refine Tx 36 ?_;refine gO xEq <| gO xA ?_)|(refine Tx 38 ?_;refine gO xEq <| gO xA ?_)|(refine Tx 41 ?_;refine gO xEq <| gO xA ?_)|(refine BX (id:=42) AX (by kernel_rfl) ?_;refine gP xF <| gP xD <| gP xF <| gP xD <| gP (by exact Fw (i:=x.a.toNat) rfl rfl rfl rfl (by omega) Af (by omega) (by decide)) <| gP Aas <| gP xF <| gP xD <| gP Aqp <| gP xF <| gP xD <| gP (xCl func121 (SA.cv)) <| gP xA ?_;refine Ke ?_))
    refine ⟨_,_,BE 5,scl (w*x.imm) x.sa,Aeq h hw,rfl,rfl⟩
   ·
    obtain ⟨ha0,ha1,hs0,hs1⟩:=hA (by omega)
    rw [if_neg (by omega)] at ha1
    obtain ⟨w,hw⟩:∃ w,Z[x.a.toNat]?=some w:=⟨_,gE (by omega)⟩
    obtain ⟨w0,w1⟩:=hCs w (gM hw)
    obtain ⟨hb0,hb1,hbs⟩:=hB (by omega)
    obtain ⟨y,hy⟩:∃ y,Z[x.b.toNat]?=some y:=⟨_,gE (by omega)⟩
    obtain ⟨y0,y1⟩:=hCs y (gM hy)
    have hm:=Aew w0 w1 y0 y1
    have SA:=BS (w*y) hs0 hs1
    repeat' (with_reducible first|refine qq ?_|refine Hg ?_|refine IO ?_|(refine Tx 30 ?_;refine gO xEq <| gO xA ?_)|(refine Tx 32 ?_;refine gO xEq <| gO xA ?_)|(refine Tx 34 ?_;refine gO xEq <| gO xA ?_)|(refine Tx 36 ?_;refine gO xEq <| gO xA ?_)|(refine Tx 38 ?_;refine gO xEq <| gO xA ?_)|(refine Tx 41 ?_;refine gO xEq <| gO xA ?_)|(refine Tx 43 ?_;refine gO xEq <| gO xA ?_)|(refine BX (id:=44) AX (by kernel_rfl) ?_;refine gP xF <| gP xD <| gP xF <| gP xD <| gP QB <| gP QC <| gP xF <| gP xD <| gP xF <| gP xD <| gP QB <| gP QC <| gP Aqp <| gP xF <| gP xD <| gP (xCl func121 (SA.cv)) <| gP xA ?_;refine Ke ?_))
    refine ⟨_,_,BE 5,scl (w*y) x.sa,AiW h hw hy,rfl,rfl⟩
   ·
    obtain ⟨ha0,ha1,hs0,hs1⟩:=hA (by omega)
    rw [if_neg (by omega)] at ha1
    obtain ⟨w,hw⟩:∃ w,Z[x.a.toNat]?=some w:=⟨_,gE (by omega)⟩
    obtain ⟨w0,w1⟩:=hCs w (gM hw)
    obtain ⟨hb0,hb1,hbs⟩:=hB (by omega)
    obtain ⟨y,hy⟩:∃ y,Z[x.b.toNat]?=some y:=⟨_,gE (by omega)⟩
    obtain ⟨y0,y1⟩:=hCs y (gM hy)
    have SA:=BS w hs0 hs1
    have b1:=Fh w0 w1 hs0 hs1
    obtain ⟨hb2,hb3⟩:=hbs (by omega)
    have SB:=BS y hb2 hb3
    have b2:=Fh y0 y1 hb2 hb3
    repeat' (with_reducible first|refine qq ?_|refine Hg ?_|refine IO ?_|(refine Tx 30 ?_;refine gO xEq <| gO xA ?_)|(refine Tx 32 ?_;refine gO xEq <| gO xA ?_)|(refine Tx 34 ?_;refine gO xEq <| gO xA ?_)|(refine Tx 36 ?_;refine gO xEq <| gO xA ?_)|(refine Tx 38 ?_;refine gO xEq <| gO xA ?_)|(refine Tx 41 ?_;refine gO xEq <| gO xA ?_)|(refine Tx 43 ?_;refine gO xEq <| gO xA ?_)|(refine Tx 45 ?_;refine gO xEq <| gO xA ?_)|(refine BX (id:=46) AX (by kernel_rfl) ?_;refine gP xF <| gP xD <| gP xF <| gP xD <| gP QB <| gP QC <| gP xF <| gP xD <| gP UW <| gP xF <| gP xD <| gP xF <| gP xD <| gP QB <| gP QC <| gP xF <| gP xD <| gP UW <| gP (by exact Abz rfl rfl rfl) <| gP xA ?_;refine Ke ?_))
    refine ⟨_,_,BE 5,(min (scl w x.sa) (scl y x.sb)),Aer h hw hy,rfl,rfl⟩
   ·
    obtain ⟨ha0,ha1,hs0,hs1⟩:=hA (by omega)
    rw [if_neg (by omega)] at ha1
    obtain ⟨w,hw⟩:∃ w,Z[x.a.toNat]?=some w:=⟨_,gE (by omega)⟩
    obtain ⟨w0,w1⟩:=hCs w (gM hw)
    obtain ⟨hb0,hb1,hbs⟩:=hB (by omega)
    obtain ⟨y,hy⟩:∃ y,Z[x.b.toNat]?=some y:=⟨_,gE (by omega)⟩
    obtain ⟨y0,y1⟩:=hCs y (gM hy)
    have SA:=BS w hs0 hs1
    have b1:=Fh w0 w1 hs0 hs1
    obtain ⟨hb2,hb3⟩:=hbs (by omega)
    have SB:=BS y hb2 hb3
    have b2:=Fh y0 y1 hb2 hb3
    repeat' (with_reducible first|refine qq ?_|refine Hg ?_|refine IO ?_|(refine Tx 30 ?_;refine gO xEq <| gO xA ?_)|(refine Tx 32 ?_;refine gO xEq <| gO xA ?_)|(refine Tx 34 ?_;refine gO xEq <| gO xA ?_)|(refine Tx 36 ?_;refine gO xEq <| gO xA ?_)|(refine Tx 38 ?_;refine gO xEq <| gO xA ?_)|(refine Tx 41 ?_;refine gO xEq <| gO xA ?_)|(refine Tx 43 ?_;refine gO xEq <| gO xA ?_)|(refine Tx 45 ?_;refine gO xEq <| gO xA ?_)|(refine Tx 47 ?_;refine gO xEq <| gO xA ?_)|(refine BX (id:=48) AX (by kernel_rfl) ?_;refine gP xF <| gP xD <| gP xF <| gP xD <| gP QB <| gP QC <| gP xF <| gP xD <| gP UW <| gP xF <| gP xD <| gP xF <| gP xD <| gP QB <| gP QC <| gP xF <| gP xD <| gP UW <| gP (by exact GI rfl rfl rfl) <| gP xA ?_;refine Ke ?_))
    refine ⟨_,_,BE 5,(max (scl w x.sa) (scl y x.sb)),Aes h hw hy,rfl,rfl⟩
   ·
    obtain ⟨ha0,ha1,hs0,hs1⟩:=hA (by omega)
    rw [if_neg (by omega)] at ha1
    obtain ⟨w,hw⟩:∃ w,Z[x.a.toNat]?=some w:=⟨_,gE (by omega)⟩
    obtain ⟨w0,w1⟩:=hCs w (gM hw)
    have SA:=BS w hs0 hs1
    have b1:=Fh w0 w1 hs0 hs1
    repeat' (with_reducible first|refine qq ?_|refine Hg ?_|refine IO ?_|(refine Tx 30 ?_;refine gO xEq <| gO xA ?_)|(refine Tx 32 ?_;refine gO xEq <| gO xA ?_)|(refine Tx 34 ?_;refine gO xEq <| gO xA ?_)|(refine Tx 36 ?_;refine gO xEq <| gO xA ?_)|(refine Tx 38 ?_;refine gO xEq <| gO xA ?_)|(refine BX (id:=39) AX (by kernel_rfl) ?_;refine gP xF <| gP xD <| gP xF <| gP xD <| gP (by exact Fw (i:=x.a.toNat) rfl rfl rfl rfl (by omega) Af (by omega) (by decide)) <| gP Aas <| gP xF <| gP xD <| gP (xCl func121 (SA.cv)) <| gP xA ?_;refine Ke ?_)|(refine Tx 40 ?_;refine gO xM <| gO xM <| gO Aar <| gO (by exact GI rfl rfl rfl) <| gO xA ?_))
    refine ⟨_,_,BE 5,(max (scl w x.sa) (-scl w x.sa)),AiX h hw,rfl,rfl⟩
  ·
   rintro F' H' ⟨V,hV,rfl,rfl⟩
   have SH:=UV V
   rw [hV] at hst
   have tl:x.dst.toNat<Z.length:=by omega
   by_cases hsv:Bc V=true
   case pos =>
    rw [hsv] at SH
    have st:Z.set x.dst.toNat V=(Gk inn (xs.take (k+1)) cs).1:=by rw [hst,WK hsv]
    have hO2:(Gk inn (xs.take (k+1)) cs).2=O:=by rw [hst,hsv];simp
    repeat' (with_reducible first|refine qq ?_|refine AiY ?_)
    exact AiZ
   case neg =>
    rw [em] at hsv
    rw [hsv] at SH
    have st:Z.set x.dst.toNat (max (-2147483648) (min V 2147483647))=(Gk inn (xs.take (k+1)) cs).1:=by rw [hst,show Ahx V=max (-2147483648) (min V 2147483647) from rfl]
    have hO2:(Gk inn (xs.take (k+1)) cs).2=true:=by rw [hst,hsv];simp
    repeat' (with_reducible first|refine qq ?_|refine AiY ?_|(refine Tx 50 ?_;refine gO xM <| gO (by exact Abz rfl rfl rfl) <| gO (by exact GI rfl rfl rfl) <| gO xA ?_)|(refine Tx 51 ?_;refine gO xF <| gZ (by first|exact xS1 DA|exact xSk DA) ?_))
    exact AiZ
 obtain rfl:k=xs.length:=by omega
 clear hlt hk
 rw [ay]
 have hCl:(Gk inn xs cs).1.length=cs.length:=SO _ _ _
 generalize hC:(Gk inn xs cs).1=Z at hCl ⊢
 generalize hO:(Gk inn xs cs).2=O
 repeat' (with_reducible first|refine qq ?_|(refine Tx 22 ?_;refine gO xLt ?_)|(refine Tx 54 ?_;refine gO xF <| gO xD <| gO xN <| gO xM ?_))
 refine Bi (Pa 3 1 3 1 rfl rfl) ?_
 refine Bi (BE 5) (Aq (fun n Fr H=>∃ k:Nat,k≤os.length∧n=os.length - k∧Fr=ofL [(3,vr 0),(6,vr 1),(13,vr 3),(277,vd (Ba t os)),(278,vi os.length),(279,vi ((k:Nat)))]∧H=[.box 94 [.d (Dh t ps),.d (Ba t is),.d (AaG t xs),.d (Ba t os)],.box 99 [.d (.val (.slice none 0 0)),.d (.val (.slice none 0 0)),.d (.val (.bool false))],.row 3 1 cs.length (cI Z),.box 99 [.own 2 cs.length,.own 4 (Ls Z (os.take (k))).length,.d (.val (.bool O))],.row 3 1 (Ls Z (os.take (k))).length (cI (Ls Z (os.take (k))))]) (n0:=os.length) ⟨0,ad _,rfl,rfl,rfl⟩ ?_)
 rintro n Fr H ⟨k,hk,rfl,rfl,rfl⟩
 by_cases hlt:k<os.length
 case pos =>
  obtain ⟨o,ho⟩:∃ o,os[k]?=some o:=⟨_,gE hlt⟩
  obtain ⟨o0,o2⟩:=Aex hp ho
  obtain ⟨w,hw⟩:∃ w,Z[o.toNat]?=some w:=⟨_,gE (by omega)⟩
  have hap:(Ls Z (os.take (k)))++[w]=(Ls Z (os.take (k+1))):=(Aaq ho hw).symm
  have hap2:(Ls Z (os.take (k))).length+1=(Ls Z (os.take (k+1))).length:=by rw [←hap];simp
  have hol:(Ls Z (os.take (k))).length≤k:=Aev _ _ _
  repeat' (with_reducible first|refine qq ?_|(refine Tx 55 ?_;refine gO xLt ?_)|(refine Tx 56 ?_;refine gO Aqo <| gO Aas <| gO xA ?_)|(refine AJ (id:=57) 8 AX (by kernel_rfl) ?_;dsimp only [List.take,List.drop];refine gP xF <| gP xD <| gP xF <| gP xD <| gP xM <| gP Aqo <| gP Aas <| gQ (by exact Bj rfl Af Bz rfl rfl (by decide) (by decide)) ?_;refine Ke ?_;refine gT (by exact LP rfl rfl rfl rfl rfl rfl Af Bz (by omega) (by decide) hap hap2) <| gO xF <| gZ (by first|exact xS1 Bd|exact xSk Bd) ?_)|(refine Tx 58 ?_;refine gO xAd <| gO xM ?_))
  refine ⟨_,_,BE 5,_,?_,k+1,by omega,rfl,rfl,rfl⟩
  ·omega
 obtain rfl:k=os.length:=by omega
 clear hlt hk
 rw [ay]
 repeat' (with_reducible first|refine qq ?_|(refine Tx 55 ?_;refine gO xLt ?_)|(refine Tx 59 ?_;refine gO xL <| gZ (xSk DV) <| gO xA ?_))
 exact Ax rfl (.cons_ (Ug rfl rfl DV rfl rfl (BG rfl rfl (WD rfl rfl hCl.symm rfl) (BG rfl rfl (WD rfl rfl rfl rfl) (BG rfl rfl (CA rfl (fun _=>.val _)) (CF rfl rfl))))) (.cons_ (Il rfl rfl) .nil_))
theorem WL {c:Int}:(∀ x∈Fb ps bs F j c,x.dst=(j:Int))∧∃ x,x∈Fb ps bs F j c∧x.dst=(j:Int):=by
 unfold Fb
 dsimp only
 repeat' split
 all_goals simp
theorem Lu:j∈Bx bs ↔ j<bs.length∧AG bs j=2:=by
 rw [GV]
 unfold dlK dlB
 simp
theorem Ic (h:(Bx bs)[t]?=some j):AM bs j=(bs.length:Int)+(t:Int):=by
 rw [GV] at h
 obtain ⟨_,h2,h3⟩:=PR.1 h
 unfold AM
 rw [if_pos h2,h3]
theorem Ahy {x:Ins} (h:x∈Cg ps bs F):0≤x.dst∧x.dst<(bs.length:Int)+((Bx bs).length:Int):=by
 unfold Cg at h
 rcases List.mem_append.1 h with h|h
 ·rcases List.mem_append.1 h with h|h
  ·obtain ⟨j,hj,hx⟩:=List.mem_flatMap.1 h
   have h1:=(FJ bs.length (EX.nil bs)).mem j hj
   rw [WL.1 x hx]
   omega
  ·obtain ⟨j,hj,rfl⟩:=List.mem_map.1 h
   obtain ⟨t,ht⟩:=dt hj
   have hlt:=(gS.1 ht).1
   show 0≤AM bs j∧AM bs j<_
   rw [Ic ht]
   omega
 ·obtain ⟨j,hj,rfl⟩:=List.mem_map.1 h
  have:=(Lu.1 hj).1
  show 0≤(j:Int)∧(j:Int)<_
  omega
theorem FH {inn:List Int} {j:Nat}:∀ {xs:List Ins} {st:List Int × Bool},(∀ x∈xs,x.dst.toNat≠j)→(xs.foldl (De inn) st).1[j]?=st.1[j]?
 | [],_,_=>rfl
 | x::xs,st,h=>by
  rw [jw,FH fun y hy=>h y (ij _ hy)]
  show (st.1.set x.dst.toNat _)[j]?=_
  rw [bt,if_neg (h x (ii ..))]
theorem Mz (h:Bc z=true):scl z 0=z:=by
 have:=EF h
 unfold scl
 rw [if_neg (by decide)]
 show _*1=z
 rw [je]
 omega
theorem UX {bs:List Bk} {inn:List Int} {st:List Int × Bool} (hlen:bs.length+(Bx bs).length≤st.1.length) (hs:∀ z∈st.1,Bc z=true):∀ t,t≤(Bx bs).length →
  (((Bx bs).take t).map (mv2 bs)).foldl (De inn) st=((((Bx bs).take t).map (mv2 bs)).foldl (De inn) st) ∧
  (∀ k,k<(Bx bs).length→((((Bx bs).take t).map (mv2 bs)).foldl (De inn) st).1[bs.length+k]?=st.1[bs.length+k]?) ∧
  ((((Bx bs).take t).map (mv2 bs)).foldl (De inn) st).1.length=st.1.length ∧
  (∀ k j,k<t→(Bx bs)[k]?=some j→((((Bx bs).take t).map (mv2 bs)).foldl (De inn) st).1[j]?=st.1[bs.length+k]?)
 | 0,_=>⟨rfl,fun _ _=>rfl,rfl,fun _ _ h=>absurd h (fk _)⟩
 | t+1,ht=>by
  obtain ⟨_,ih1,ih2,ih3⟩:=UX (inn:=inn) hlen hs t (by omega)
  obtain ⟨d,hd⟩:∃ d,(Bx bs)[t]?=some d:=⟨_,gE (by omega)⟩
  have hdn:=(Lu.1 (gM hd)).1
  have hc:=Ic hd
  obtain ⟨z,hz⟩:∃ z,st.1[bs.length+t]?=some z:=⟨_,gE (by omega)⟩
  have hzs:=hs z (gM hz)
  have e:(((Bx bs).take (t+1)).map (mv2 bs)).foldl (De inn) st=De inn ((((Bx bs).take t).map (mv2 bs)).foldl (De inn) st) (mv2 bs d):=by
   rw [aw,hd]
   simp [fo]
  generalize (((Bx bs).take t).map (mv2 bs)).foldl (De inn) st=A at ih1 ih2 ih3 e
  have hv:Gz (mv2 bs d) A.1 inn=z:=by
   rw [SN (w:=z) rfl (by show A.1[(AM bs d).toNat]?=_;rw [hc,show ((bs.length:Int)+(t:Int)).toNat=bs.length+t by omega,ih1 t (by omega)];exact hz)]
   exact Mz hzs
  have hA:(De inn A (mv2 bs d)).1=A.1.set d z:=by
   show A.1.set ((d:Int)).toNat (Ahx (Gz (mv2 bs d) A.1 inn))=_
   rw [hv,WK hzs]
   rfl
  rw [e,hA]
  refine ⟨rfl,fun k hk=>?_,by rw [dp];exact ih2,fun k j hk hj=>?_⟩
  ·rw [bt,if_neg (by omega)]
   exact ih1 k hk
  ·by_cases hjd:d=j
   ·subst hjd
    have hkt:k=t:=by
     have h1:=hj;have h2:=hd
     rw [GV] at h1 h2
     have:=(PR.1 h1).2.2;have:=(PR.1 h2).2.2;omega
    subst hkt
    rw [bt,if_pos rfl,if_pos (by omega)]
    exact hz.symm
   ·rw [bt,if_neg hjd]
    refine ih3 k j ?_ hj
    rcases ba k t with h|h
    ·exact h
    ·exfalso
     have:k=t:=by omega
     subst this
     rw [hd] at hj
     exact hjd (Option.some.inj hj)
theorem Amo {is:List Int} (hp:Ci ps is xs os=0) (k:Nat) (p:Prt) (z:Int) (h1:ps[k]?=some p) (h2:(Lx ps inn ps.length)[k]?=some z):p.lo≤z∧z≤p.hi:=by
 have hk:=(gS.1 h1).1
 have:=Qe hp (Lr p) (by simp only [eh,iy];exact .inl ⟨p,gM h1,rfl⟩)
 have hle:p.lo≤p.hi:=by
  unfold Lr at this
  exact cw fun hn=>by rw [if_neg (fun h=>hn h.2.2.1)] at this;cases this
 unfold Lx at h2
 rw [ag,ko hk] at h2
 simp only [bu,Option.some.injEq,h1,ci] at h2
 subst h2
 unfold RJ
 omega
theorem Amp {k:Int} (h:BJ n e k=0):GS n e k∧Dq n e k=shE n (e+k) ∧ -2147483648≤Dq n e k∧Dq n e k<2147483648∧Cm (Ac (Dq n e k) 0 (-k)).1 (Ac (Dq n e k) 0 (-k)).2 (Ac n 0 e).1 (Ac n 0 e).2≤0∧0<Cm (Ac (Dq n e k+1) 0 (-k)).1 (Ac (Dq n e k+1) 0 (-k)).2 (Ac n 0 e).1 (Ac n 0 e).2:=by
 have hok:GS n e k:=cw fun hn=>by rw [(Aih hn).1] at h;cases h
 have hb : -2147483648≤shE n (e+k)∧shE n (e+k)<2147483648:=cw fun hn=>by rw [(Sl hok hn).1] at h;cases h
 have hv:=(Acn hok hb).2
 refine ⟨hok,hv,by omega,by omega,?_⟩
 obtain ⟨_,_,he0,he1,hk0,hk1⟩:=hok
 have pw:∀ n:Nat,(0:Int)<2 ^ n:=fun n=>gg (by decide)
 rw [Py (GT (q:=100) (by omega) (by omega) (by omega)) (GT (q:=100) (by omega) (by omega) (by omega)),Py (GT (q:=100) (by omega) (by omega) (by omega)) (GT (q:=100) (by omega) (by omega) (by omega)),BZ,BZ,hv]
 have key:shE n (e+k)*2 ^ (-k+(100:Nat)).toNat≤n*2 ^ (e+(100:Nat)).toNat∧n*2 ^ (e+(100:Nat)).toNat<(shE n (e+k)+1)*2 ^ (-k+(100:Nat)).toNat:=by
  unfold shE
  by_cases hneg:e+k<0
  ·rw [if_pos hneg,show (-k+(100:Nat)).toNat=(-(e+k)).toNat+(e+(100:Nat)).toNat by omega,ao,←ai,←ai]
   have h1:=Int.mul_ediv_add_emod n (2 ^ (-(e+k)).toNat)
   have h2:=Int.emod_nonneg n (fm (pw (-(e+k)).toNat))
   have h3:=Int.emod_lt_of_pos n (pw (-(e+k)).toNat)
   rw [bz] at h1
   refine ⟨dc (by omega) (bl (pw _)),ml ?_ (pw _)⟩
   rw [ic,jg]
   omega
  ·rw [if_neg hneg,show (e+(100:Nat)).toNat=(e+k).toNat+(-k+(100:Nat)).toNat by omega,ao,←ai]
   have h4:=pw (-k+(100:Nat)).toNat
   refine ⟨fi _,?_⟩
   rw [ic,jg]
   omega
 obtain ⟨k1,k2⟩:=key
 rw [if_neg (Int.not_lt.2 (bl k2)),if_pos k2]
 refine ⟨?_,by decide⟩
 by_cases h:shE n (e+k)*2 ^ (-k+(100:Nat)).toNat<n*2 ^ (e+(100:Nat)).toNat
 ·rw [if_pos h];decide
 ·rw [if_neg h,if_neg (by omega)];decide
theorem Ahz (t:Bool) {ps:List Prt} {is:List Int} {xs:List Ins} {os:List Int} (hp:Ci ps is xs os=0):CV prog An 47 [WA t ps is xs os] [.one (Ba false is),aE 0]:=by
 refine cvz func47 ntmps47 ?_
 obtain ⟨hp1,hi1,hx1,ho1⟩:=SQ hp
 have CK:=YM t (lT hp1 (by decide)) (lT hi1 (by decide)) (lT hx1 (by decide)) (lT ho1 (by decide)) hp
 have hc1:is.length≤1000000:=by omega
 repeat' (with_reducible first|refine qq ?_|(refine Tx 0 ?_;refine gN xBo <| gO xA <| gO xA ?_)|(refine Tx 1 ?_;refine gO xL <| gO (xCl func119 (CK)) <| gO xA ?_)|(refine Tx 2 ?_;refine gO xM <| gO (xNE Ap) ?_)|(refine Tx 4 ?_;refine gO (by exact Pb rfl Af) <| gO xF <| gO xD <| gO (by exact MW rfl rfl (.inl rfl) rfl (UM _) Af Bz (hc1) (by decide) (by decide)) <| gO xA <| gO xA ?_))
 exact Ax rfl (.cons_ (.tmp (.one (CA rfl fun _=>XO _))) (.cons_ (Il rfl rfl) .nil_))
theorem MD {inn:List Int}:∀ {xs:List Ins} {st:List Int × Bool},(xs.foldl (De inn) st).1.length=st.1.length
 | [],_=>rfl
 | x::xs,st=>by rw [jw,MD];simp [De]
theorem Ie {inn:List Int}:∀ {xs:List Ins} {st:List Int × Bool},(∀ z∈st.1,Bc z=true)→∀ z∈(xs.foldl (De inn) st).1,Bc z=true
 | [],_,h=>h
 | x::xs,st,h=>Ie (xs:=xs) (st:=De inn st x) fun z hz=>by
  rcases kj hz with hz|rfl
  ·exact h z hz
  ·exact Ns _
theorem pw2 (n:Nat):(0:Int)<2 ^ n:=gg (by decide)
theorem YO {k:Int} {a:Nat} (hk:k=(b:Int) - a) (hz:k<0∨(-4294967296≤z∧z≤4294967296)):0≤z*2 ^ b - scl z k*2 ^ a∧z*2 ^ b - scl z k*2 ^ a<2 ^ a:=by
 unfold scl
 by_cases h:k<0
 ·rw [if_pos h,show a=(-k).toNat+b by omega,ao,←ai]
  have h1:=Int.mul_ediv_add_emod z (2 ^ (-k).toNat)
  have h2:=Int.emod_nonneg z (fm (pw2 (-k).toNat))
  have h3:=Int.emod_lt_of_pos z (pw2 (-k).toNat)
  have e:z*2 ^ b - z / 2 ^ (-k).toNat*2 ^ (-k).toNat*2 ^ b=(z % 2 ^ (-k).toNat)*2 ^ b:=by
   rw [←ej]
   congr 1
   rw [bz] at h1
   omega
  rw [e]
  exact ⟨jd h2 (bl (pw2 b)),ml h3 (pw2 b)⟩
 ·have hz':=hz.resolve_left h
  rw [if_neg h,show max (-4294967296) (min z 4294967296)=z by omega,show b=k.toNat+a by omega,ao,←ai,Int.sub_self]
  exact ⟨fi _,pw2 a⟩
theorem Aez {k:Int} {a:Nat} (hk:k=(b:Int) - a):0≤z*2 ^ b - shE z k*2 ^ a∧z*2 ^ b - shE z k*2 ^ a<2 ^ a:=by
 have e:k<0→shE z k=scl z k:=fun h=>by unfold shE scl;rw [if_pos h,if_pos h]
 by_cases h:k<0
 ·rw [e h];exact YO hk (.inl h)
 ·unfold shE
  rw [if_neg h,show b=k.toNat+a by omega,ao,←ai,Int.sub_self]
  exact ⟨fi _,pw2 a⟩
theorem AeA {p q P:Int} (hP:0<P):min p q*P=min (p*P) (q*P):=by
 rcases Int.le_total p q with h|h
 ·have:=dc h (bl hP)
  rw [show min p q=p by omega];omega
 ·have:=dc h (bl hP)
  rw [show min p q=q by omega];omega
theorem WM {p q P:Int} (hP:0<P):max p q*P=max (p*P) (q*P):=by
 rcases Int.le_total p q with h|h
 ·have:=dc h (bl hP)
  rw [show max p q=q by omega];omega
 ·have:=dc h (bl hP)
  rw [show max p q=p by omega];omega
theorem AhA (h:GX ps bs F=0):F.length=bs.length∧F.all GW=true∧∀ j,j<bs.length→IC bs F j=0:=by
 unfold GX at h
 by_cases h1:F.length=bs.length
 ·rw [if_neg (not_not_intro h1)] at h
  by_cases h2:F.all GW=true
  ·rw [if_neg (not_not_intro h2)] at h
   by_cases h3:Ah ((List.range bs.length).map (IC bs F))=0
   ·exact ⟨h1,h2,fun j hj=>Cu h3 _ (List.mem_map.2 ⟨j,List.mem_range.2 hj,rfl⟩)⟩
   ·rw [if_pos h3] at h;exact absurd h h3
  ·rw [if_pos h2] at h;cases h
 ·rw [if_pos h1] at h;cases h
theorem Amq {f:Int} (h:BJ n e f=0) : -2147483648<n∧n<2147483648 ∧ -62≤e∧e≤30∧Dq n e f=shE n (e+f):=by
 obtain ⟨hok,hv,_⟩:=Amp h
 unfold GS at hok
 exact ⟨hok.1,hok.2.1,hok.2.2.1,hok.2.2.2.1,hv⟩
section
variable {ps:List Prt} {bs:List Bk} {os F inn:List Int}
theorem UY {α β:Type} (f g:α→β):∀ (l:List α) (t:Nat),(l.flatMap fun j=>[f j,g j])[2*t]?=(l[t]?).map f∧(l.flatMap fun j=>[f j,g j])[2*t+1]?=(l[t]?).map g
 | [],t=>by simp
 | x::l,0=>by simp
 | x::l,t+1=>by
  have ih:=UY f g l t
  rw [List.flatMap_cons,show 2*(t+1)=2*t+2 by omega]
  exact ih
theorem AeB (hj:j<bs.length) (hk:AG bs j=11):bs.length≤(AM bs j).toNat∧(Cv bs F)[(AM bs j).toNat]?=some (Ed bs F j)∧(Cv bs F)[(AM bs j+1).toNat]?=some (GF bs F j):=by
 have ht:(cpK bs bs.length)[IE (cpB bs) j]?=some j:=AdT.2 ⟨hj,hk,rfl⟩
 have hc:AM bs j=(bs.length:Int)+((dlK bs bs.length).length:Int)+2*(IE (cpB bs) j:Int):=by unfold AM;rw [if_neg (by omega),if_pos hk]
 have hg:=UY (fun j=>Ed bs F j) (fun j=>GF bs F j) (cpK bs bs.length) (IE (cpB bs) j)
 rw [ht] at hg
 have hpre:(tab bs.length (fun j=>if AG bs j=2 then Ed bs F j else 0)++List.replicate (Bx bs).length 0).length=bs.length+(dlK bs bs.length).length:=by rw [ak,Fa,fa,GV]
 refine ⟨by omega,?_,?_⟩
 ·unfold Cv
  rw [dg (by omega),hpre,show (AM bs j).toNat - (bs.length+(dlK bs bs.length).length)=2*IE (cpB bs) j by omega]
  exact hg.1
 ·unfold Cv
  rw [dg (by omega),hpre,show (AM bs j+1).toNat - (bs.length+(dlK bs bs.length).length)=2*IE (cpB bs) j+1 by omega]
  exact hg.2
end
structure Ajb (bs:List Bk) (F cs:List Int):Prop where
 len:cs.length=(Cv bs F).length
 short:∀ z∈cs,Bc z=true
 up:∀ c,bs.length+(Bx bs).length≤c→cs[c]?=(Cv bs F)[c]?
theorem Ajb.init (bs:List Bk) (F:List Int):Ajb bs F (Cv bs F):=⟨rfl,fun _ hz=>Rx hz,fun _ _=>rfl⟩
def AaI (bs:List Bk) (cs V:List Int) (a:Nat):Option Int:=if AG bs a=2 then cs[a]? else V[a]?
def zC (bs:List Bk) (cs V:List Int) (a:Int):Int:=(AaI bs cs V a.toNat).getD 0
def Fi (ps:List Prt) (F inn:List Int) (y:Bk) (s:Int) (z:Int→Int):Int :=
 if y.kind=0 then scl (inn[(Bt y).toNat]?.getD 0) (s - FE ps (Bt y))
 else if y.kind=1 then Dq y.vn y.ve s
 else if y.kind=6 then scl (z (Bt y)*y.vn) (s - scA F (Bt y).toNat+y.ve)
 else if y.kind=7 then scl (z (Bt y)*z (FP y)) (s - scA F (Bt y).toNat - scA F (FP y).toNat)
 else if y.kind=11 then max (scl (z (Bt y)) (s - scA F (Bt y).toNat)) (Dq y.vn y.ve s)
 else if y.kind=3 then scl (z (Bt y)) (s - scA F (Bt y).toNat)+scl (z (FP y)) (s - scA F (FP y).toNat)
 else if y.kind=4 then scl (z (Bt y)) (s - scA F (Bt y).toNat) - scl (z (FP y)) (s - scA F (FP y).toNat)
 else if y.kind=8 then min (scl (z (Bt y)) (s - scA F (Bt y).toNat)) (scl (z (FP y)) (s - scA F (FP y).toNat))
 else if y.kind=9 then max (scl (z (Bt y)) (s - scA F (Bt y).toNat)) (scl (z (FP y)) (s - scA F (FP y).toNat))
 else if y.kind=5 then -scl (z (Bt y)) (s - scA F (Bt y).toNat)
 else max (scl (z (Bt y)) (s - scA F (Bt y).toNat)) (-scl (z (Bt y)) (s - scA F (Bt y).toNat))
def Ge (ps:List Prt) (F inn:List Int) (y:Bk) (s:Int) (z:Int→Int):Int:=if y.kind=11 then min (Fi ps F inn y s z) (Dq y.un y.ue s) else Fi ps F inn y s z
section
variable {ps:List Prt} {bs:List Bk} {os F inn cs:List Int}
def stK (ps:List Prt) (bs:List Bk) (F inn cs:List Int) (k:Nat):List Int × Bool:=(((BH bs).take k).flatMap (fun j=>Fb ps bs F j (AM bs j))).foldl (De inn) (cs,false)
abbrev stL (ps:List Prt) (bs:List Bk) (F inn cs:List Int):List Int × Bool:=stK ps bs F inn cs (BH bs).length
theorem YP {k:Nat} (hj:(BH bs)[k]?=some j):stK ps bs F inn cs (k+1)=(Fb ps bs F j (AM bs j)).foldl (De inn) (stK ps bs F inn cs k):=by
 unfold stK
 rw [aw,hj]
 simp [List.flatMap_append,fo]
theorem Qf (k:Nat):(stK ps bs F inn cs k).1.length=cs.length:=MD
theorem Hh (hs:∀ z∈cs,Bc z=true) (k:Nat):∀ z∈(stK ps bs F inn cs k).1,Bc z=true:=Ie hs
theorem Qg {k:Nat} (hi:i ∉ (BH bs).take k):(stK ps bs F inn cs k).1[i]?=cs[i]?:=by
 refine FH fun x hx=>?_
 obtain ⟨j,hj,hx⟩:=List.mem_flatMap.1 hx
 rw [WL.1 x hx]
 intro h
 have:j=i:=by omega
 exact hi (this ▸ hj)
theorem Ig (h:i∈BH bs):i<bs.length∧AG bs i≠2:=(FJ bs.length (EX.nil bs)).mem i h
theorem Aat:(BH bs).Nodup:=(FJ bs.length (EX.nil bs)).nodup
theorem YQ {k m:Nat} (hkm:k≤m) (hi:i∈(BH bs).take k):(stK ps bs F inn cs m).1[i]?=(stK ps bs F inn cs k).1[i]?:=by
 induction m with
 | zero=>rw [Nat.le_zero.1 hkm]
 | succ m ih =>
  by_cases hk:k=m+1
  ·rw [hk]
  rw [←ih (by omega)]
  rcases hj:(BH bs)[m]? with _|j
  ·unfold stK;rw [aw,hj];simp
  rw [YP hj]
  refine FH fun x hx=>?_
  rw [WL.1 x hx]
  intro h
  have hji:j=i:=by omega
  subst hji
  obtain ⟨q,hq⟩:=dt hi
  rw [bq] at hq
  split at hq
  ·have h1:=(List.getElem?_inj (gS.1 hq).1 Aat).1 (hq.trans hj.symm)
   omega
  ·cases hq
theorem Ajc (h:p:=by
 obtain ⟨hlt,he⟩:=gS.1 hj
 rw [←he,←du hlt,gj]):p:=h
theorem at_k (h0:EZ bs=0) {k j:Nat} (hj:(BH bs)[k]?=some j) {a:Int} (ha:a∈GD bs j) (a0:0≤a) (a1:a<bs.length):(stK ps bs F inn cs k).1[a.toNat]?=AaI bs cs (stL ps bs F inn cs).1 a.toNat:=by
 have hsplit:BH bs=(BH bs).take k++j::(BH bs).drop (k+1):=by
  exact Ajc
 unfold AaI
 by_cases h2:AG bs a.toNat=2
 ·rw [if_pos h2]
  exact Qg fun h=>(Ig (dj h)).2 h2
 ·rw [if_neg h2]
  have hin:=(Om hsplit ha).resolve_left h2
  exact (YQ (iq (gS.1 hj).1) hin).symm
theorem SR (hC:Ajb bs F cs) {V:List Int} (hl:V.length=cs.length) (hs:∀ z∈V,Bc z=true) {a:Int} (a0:0≤a) (a1:a<bs.length):AaI bs cs V a.toNat=some (zC bs cs V a) ∧ -2147483648≤zC bs cs V a∧zC bs cs V a<2147483648:=by
 have hi:=Ib bs F
 have hcl:=hC.len
 have key:∃ z,AaI bs cs V a.toNat=some z∧Bc z=true:=by
  unfold AaI
  by_cases h2:AG bs a.toNat=2
  ·rw [if_pos h2]
   obtain ⟨z,hz⟩:∃ z,cs[a.toNat]?=some z:=⟨_,gE (by omega)⟩
   exact ⟨z,hz,hC.short z (gM hz)⟩
  ·rw [if_neg h2]
   obtain ⟨z,hz⟩:∃ z,V[a.toNat]?=some z:=⟨_,gE (by omega)⟩
   exact ⟨z,hz,hs z (gM hz)⟩
 obtain ⟨z,h1,h2⟩:=key
 have h3:=EF h2
 have e:zC bs cs V a=z:=by unfold zC;rw [h1];rfl
 rw [e]
 exact ⟨h1,h3.1,h3.2⟩
theorem Amr (hj:j<bs.length) (hk:AG bs j=11):bs.length+(Bx bs).length≤(AM bs j).toNat∧0≤AM bs j:=by
 have hc:AM bs j=(bs.length:Int)+((dlK bs bs.length).length:Int)+2*(IE (cpB bs) j:Int):=by unfold AM;rw [if_neg (by omega),if_pos hk]
 rw [GV]
 omega
theorem WN {x:Ins} (hd:x.dst=(j:Int)) (hj:j<st.1.length):([x].foldl (De inn) st).2=(st.2 || !Bc (Gz x st.1 inn))∧(Bc (Gz x st.1 inn)=true→([x].foldl (De inn) st).1[j]?=some (Gz x st.1 inn)):=by
 refine ⟨rfl,fun h=>?_⟩
 show (st.1.set x.dst.toNat (Ahx (Gz x st.1 inn)))[j]?=_
 rw [WK h,hd,am,bt,if_pos rfl,if_pos hj]
theorem Rz (h:p:=by
 rw [hp]
 exact ⟨this.1,fun h=>⟨this.2 h,h⟩⟩):p:=h
theorem Ams (he:Bl ps bs os=0) (hc:GX ps bs F=0) (hC:Ajb bs F cs) (hin:ps.length≤inn.length) {k j:Nat} (hj:(BH bs)[k]?=some j) {y:Bk} (hy:bs[j]?=some y) :
  (stK ps bs F inn cs (k+1)).2=((stK ps bs F inn cs k).2 || !Bc (Fi ps F inn y (scA F j) (zC bs cs (stL ps bs F inn cs).1))) ∧
  (Bc (Fi ps F inn y (scA F j) (zC bs cs (stL ps bs F inn cs).1))=true→(stK ps bs F inn cs (k+1)).1[j]?=some (Ge ps F inn y (scA F j) (zC bs cs (stL ps bs F inn cs).1))∧Bc (Ge ps F inn y (scA F j) (zC bs cs (stL ps bs F inn cs).1))=true):=by
 obtain ⟨hFl,hall,hcon⟩:=AhA hc
 have hjl:=(gS.1 hy).1
 have hYK:=Ck hy
 have hYA:=Di hy
 have ho:EZ bs=0:=(LS he).2.2
 have hk2:y.kind≠2:=by rw [←hYK];exact (Ig (gM hj)).2
 have hat:∀ a∈GD bs j,0≤a→a<bs.length→(stK ps bs F inn cs k).1[a.toNat]?=AaI bs cs (stL ps bs F inn cs).1 a.toNat:=fun a ha=>at_k ho hj ha
 have hzr:=fun (a:Int)=>SR (a:=a) hC (V:=(stL ps bs F inn cs).1) (Qf _) (Hh hC.short _)
 have hup:∀ c,bs.length≤c→(stK ps bs F inn cs k).1[c]?=cs[c]?:=fun c hc=>Qg fun h=>by
  have:=(Ig (dj h)).1
  omega
 have hlen:(stK ps bs F inn cs k).1.length=cs.length:=Qf _
 have hshort:∀ z∈(stK ps bs F inn cs k).1,Bc z=true:=Hh hC.short _
 rw [YP hj]
 generalize stK ps bs F inn cs k=st at hat hup hlen hshort ⊢
 generalize (stL ps bs F inn cs).1=V at hat hzr ⊢
 have hil:=Ib bs F
 have hcl:=hC.len
 have hjs:j<st.1.length:=by omega
 have hone:=fun (x:Ins) (hd:x.dst=(j:Int))=>WN (inn:=inn) (st:=st) hd hjs
 have hac:=Cl he hy
 have hck:=hac.2.1
 have hcg:=hac.1
 by_cases k0:y.kind=0
 ·have hl:y.args.length=1:=by rw [k0] at hck;simp [AO] at hck;omega
  obtain ⟨a,ha⟩:∃ a,y.args[0]?=some a:=⟨_,gE (by omega)⟩
  have h1:=hac.2.2 a (gM ha)
  rw [show Cn ps.length bs.length y.kind=ps.length from if_pos k0] at h1
  have Aa:Bt y=a:=by unfold Bt;rw [ha];rfl
  obtain ⟨r,hr⟩:∃ r,inn[a.toNat]?=some r:=⟨_,gE (by omega)⟩
  have hb:Fb ps bs F j (AM bs j)=[⟨0,j,a,0,scA F j - FE ps a,0,0⟩]:=by unfold Fb;dsimp only;rw [hYA,if_pos k0,Aa]
  have hp:Fi ps F inn y (scA F j) (zC bs cs V)=scl r (scA F j - FE ps a):=by unfold Fi;rw [if_pos k0,Aa,hr];rfl
  have hcc:Ge ps F inn y (scA F j) (zC bs cs V)=scl r (scA F j - FE ps a):=by unfold Ge;rw [if_neg (by omega),hp]
  have:=hone ⟨0,j,a,0,scA F j - FE ps a,0,0⟩ rfl
  rw [Aqn rfl hr] at this
  rw [hb,hp,hcc]
  exact ⟨this.1,fun h=>⟨this.2 h,h⟩⟩
 have hpr:GD bs j=y.args:=by unfold GD QY;rw [hYK,if_neg k0,hy];rfl
 have hM:Cn ps.length bs.length y.kind=bs.length:=if_neg k0
 have arg:∀ i a,y.args[i]?=some a→st.1[a.toNat]?=some (zC bs cs V a):=fun i a h=>by
  have hm:=gM h
  have h1:=hac.2.2 a hm
  rw [hM] at h1
  exact (hat a (by rw [hpr];exact hm) h1.1 h1.2).trans (hzr a h1.1 h1.2).1
 by_cases k1:y.kind=1
 ·have hb:Fb ps bs F j (AM bs j)=[⟨1,j,0,0,0,0,Mj bs F j⟩]:=by unfold Fb;dsimp only;rw [hYA,if_neg k0,if_pos k1]
  have hrv:Mj bs F j=Dq y.vn y.ve (scA F j):=by unfold Mj;rw [hYA]
  have hp:Fi ps F inn y (scA F j) (zC bs cs V)=Dq y.vn y.ve (scA F j):=by unfold Fi;rw [if_neg k0,if_pos k1]
  have hcc:Ge ps F inn y (scA F j) (zC bs cs V)=Dq y.vn y.ve (scA F j):=by unfold Ge;rw [if_neg (by omega),hp]
  have:=hone ⟨1,j,0,0,0,0,Mj bs F j⟩ rfl
  rw [YN rfl] at this
  rw [hb,hp,hcc,←hrv]
  exact ⟨this.1,fun h=>⟨this.2 h,h⟩⟩
 have hl1:1≤y.args.length:=by unfold AO at hck hcg;(repeat' split at hck) <;> omega
 obtain ⟨a,ha⟩:∃ a,y.args[0]?=some a:=⟨_,gE (by omega)⟩
 have Aa:Bt y=a:=by unfold Bt;rw [ha];rfl
 have hw:=arg 0 a ha
 by_cases k6:y.kind=6
 ·have hb:Fb ps bs F j (AM bs j)=[⟨6,j,a,0,scA F j - scA F a.toNat+y.ve,0,y.vn⟩]:=by unfold Fb;dsimp only;rw [hYA,if_neg k0,if_neg k1,if_pos k6,Aa]
  have hp:Fi ps F inn y (scA F j) (zC bs cs V)=scl (zC bs cs V a*y.vn) (scA F j - scA F a.toNat+y.ve):=by unfold Fi;rw [if_neg k0,if_neg k1,if_pos k6,Aa]
  have hcc:Ge ps F inn y (scA F j) (zC bs cs V)=scl (zC bs cs V a*y.vn) (scA F j - scA F a.toNat+y.ve):=by unfold Ge;rw [if_neg (by omega),hp]
  have:=hone ⟨6,j,a,0,scA F j - scA F a.toNat+y.ve,0,y.vn⟩ rfl
  rw [Aeq rfl hw] at this
  rw [hb,hp,hcc]
  exact ⟨this.1,fun h=>⟨this.2 h,h⟩⟩
 by_cases two:y.kind=3∨y.kind=4∨y.kind=7∨y.kind=8∨y.kind=9
 ·have hl2:y.args.length=2:=by unfold AO at hck hcg;(repeat' split at hck) <;> omega
  obtain ⟨b,hb1⟩:∃ b,y.args[1]?=some b:=⟨_,gE (by omega)⟩
  have Ab:FP y=b:=by unfold FP;rw [hb1];rfl
  have hv:=arg 1 b hb1
  have k11:y.kind≠11:=by omega
  have hcc:Ge ps F inn y (scA F j) (zC bs cs V)=Fi ps F inn y (scA F j) (zC bs cs V):=by unfold Ge;rw [if_neg k11]
  rw [hcc]
  by_cases k7:y.kind=7
  ·have hb:Fb ps bs F j (AM bs j)=[⟨7,j,a,b,scA F j - scA F a.toNat - scA F b.toNat,0,0⟩]:=by unfold Fb;dsimp only;rw [hYA,if_neg k0,if_neg k1,if_neg k6,if_pos k7,Aa,Ab]
   have hp:Fi ps F inn y (scA F j) (zC bs cs V)=scl (zC bs cs V a*zC bs cs V b) (scA F j - scA F a.toNat - scA F b.toNat):=by unfold Fi;rw [if_neg k0,if_neg k1,if_neg k6,if_pos k7,Aa,Ab]
   have:=hone ⟨7,j,a,b,scA F j - scA F a.toNat - scA F b.toNat,0,0⟩ rfl
   rw [AiW rfl hw hv] at this
   rw [hb,hp]
   exact ⟨this.1,fun h=>⟨this.2 h,h⟩⟩
  have blk:Fb ps bs F j (AM bs j)=[⟨opM y.kind,j,a,b,scA F j - scA F a.toNat,scA F j - scA F b.toNat,0⟩]:=by unfold Fb;dsimp only;rw [hYA,if_neg k0,if_neg k1,if_neg k6,if_neg k7,if_neg k11,if_pos hl2,Aa,Ab]
  have:=hone ⟨opM y.kind,j,a,b,scA F j - scA F a.toNat,scA F j - scA F b.toNat,0⟩ rfl
  rw [blk]
  rcases (show y.kind=3∨y.kind=4∨y.kind=8∨y.kind=9 by omega) with q|q|q|q
  ·rw [AiT (by rw [q];rfl) hw hv] at this
   have hp:Fi ps F inn y (scA F j) (zC bs cs V)=scl (zC bs cs V a) (scA F j - scA F a.toNat)+scl (zC bs cs V b) (scA F j - scA F b.toNat):=by unfold Fi;rw [if_neg k0,if_neg k1,if_neg k6,if_neg k7,if_neg k11,if_pos q,Aa,Ab]
   exact Rz
  ·rw [AiU (by rw [q];rfl) hw hv] at this
   have hp:Fi ps F inn y (scA F j) (zC bs cs V)=scl (zC bs cs V a) (scA F j - scA F a.toNat) - scl (zC bs cs V b) (scA F j - scA F b.toNat):=by unfold Fi;rw [if_neg k0,if_neg k1,if_neg k6,if_neg k7,if_neg k11,if_neg (by omega),if_pos q,Aa,Ab]
   exact Rz
  ·rw [Aer (by rw [q];rfl) hw hv] at this
   have hp:Fi ps F inn y (scA F j) (zC bs cs V)=min (scl (zC bs cs V a) (scA F j - scA F a.toNat)) (scl (zC bs cs V b) (scA F j - scA F b.toNat)):=by unfold Fi;rw [if_neg k0,if_neg k1,if_neg k6,if_neg k7,if_neg k11,if_neg (by omega),if_neg (by omega),if_pos q,Aa,Ab]
   exact Rz
  ·rw [Aes (by rw [q];rfl) hw hv] at this
   have hp:Fi ps F inn y (scA F j) (zC bs cs V)=max (scl (zC bs cs V a) (scA F j - scA F a.toNat)) (scl (zC bs cs V b) (scA F j - scA F b.toNat)):=by unfold Fi;rw [if_neg k0,if_neg k1,if_neg k6,if_neg k7,if_neg k11,if_neg (by omega),if_neg (by omega),if_neg (by omega),if_pos q,Aa,Ab]
   exact Rz
 have k7:y.kind≠7:=by omega
 have hl1':y.args.length=1:=by unfold AO at hck hcg;(repeat' split at hck) <;> omega
 by_cases k11:y.kind=11
 ·obtain ⟨hci,hlo,hhi⟩:=AeB (F:=F) hjl (hYK.trans k11)
  obtain ⟨hcd,hc0⟩:=Amr hjl (hYK.trans k11)
  have hcV:Ed bs F j=Dq y.vn y.ve (scA F j):=by unfold Ed;rw [hYK,if_pos (by omega)];unfold Mj;rw [hYA]
  have hcU:GF bs F j=Dq y.un y.ue (scA F j):=by unfold GF;rw [hYK,if_pos k11];unfold AgB;rw [hYA]
  rw [hcV] at hlo
  rw [hcU] at hhi
  have slo:Bc (Dq y.vn y.ve (scA F j))=true:=Fg _ _ _
  have shi:Bc (Dq y.un y.ue (scA F j))=true:=Fg _ _ _
  have blk:Fb ps bs F j (AM bs j)=[⟨9,j,a,AM bs j,scA F j - scA F a.toNat,0,0⟩,⟨8,j,j,AM bs j+1,0,0,0⟩]:=by unfold Fb;dsimp only;rw [hYA,if_neg k0,if_neg k1,if_neg k6,if_neg k7,if_pos k11,Aa]
  have hup1:=(hup (AM bs j).toNat hci).trans ((hC.up _ hcd).trans hlo)
  have hup2:=(hup (AM bs j+1).toNat (by omega)).trans ((hC.up _ (by omega)).trans hhi)
  have i1:Gz ⟨9,j,a,AM bs j,scA F j - scA F a.toNat,0,0⟩ st.1 inn=max (scl (zC bs cs V a) (scA F j - scA F a.toNat)) (Dq y.vn y.ve (scA F j)):=by
   rw [Aes rfl hw hup1]
   show max _ (scl _ 0)=_
   rw [Mz slo]
  have hp:Fi ps F inn y (scA F j) (zC bs cs V)=max (scl (zC bs cs V a) (scA F j - scA F a.toNat)) (Dq y.vn y.ve (scA F j)):=by unfold Fi;rw [if_neg k0,if_neg k1,if_neg k6,if_neg k7,if_pos k11,Aa]
  have hcc:Ge ps F inn y (scA F j) (zC bs cs V)=min (max (scl (zC bs cs V a) (scA F j - scA F a.toNat)) (Dq y.vn y.ve (scA F j))) (Dq y.un y.ue (scA F j)):=by unfold Ge;rw [if_pos k11,hp]
  obtain ⟨o1,o2⟩:=hone ⟨9,j,a,AM bs j,scA F j - scA F a.toNat,0,0⟩ rfl
  rw [i1] at o1 o2
  rw [hp,hcc,blk]
  rw [show ([⟨9,j,a,AM bs j,scA F j - scA F a.toNat,0,0⟩,⟨8,j,j,AM bs j+1,0,0,0⟩]:List Ins).foldl (De inn) st=[⟨8,j,j,AM bs j+1,0,0,0⟩].foldl (De inn) ([⟨9,j,a,AM bs j,scA F j - scA F a.toNat,0,0⟩].foldl (De inn) st) from rfl]
  have hf:([(⟨9,j,a,AM bs j,scA F j - scA F a.toNat,0,0⟩:Ins)].foldl (De inn) st).1[(AM bs j+1).toNat]?=some (Dq y.un y.ue (scA F j)):=(FH fun x hx=>by
   rw [List.mem_singleton.1 hx]
   show ((j:Int)).toNat≠_
   omega).trans hup2
  have hs1:=Ie (inn:=inn) (xs:=[(⟨9,j,a,AM bs j,scA F j - scA F a.toNat,0,0⟩:Ins)]) hshort
  have hl3:([(⟨9,j,a,AM bs j,scA F j - scA F a.toNat,0,0⟩:Ins)].foldl (De inn) st).1.length=st.1.length:=MD
  generalize max (scl (zC bs cs V a) (scA F j - scA F a.toNat)) (Dq y.vn y.ve (scA F j))=p at o1 o2 ⊢
  generalize [(⟨9,j,a,AM bs j,scA F j - scA F a.toNat,0,0⟩:Ins)].foldl (De inn) st=s1 at o1 o2 hf hs1 hl3 ⊢
  obtain ⟨q,hq⟩:∃ q,s1.1[j]?=some q:=⟨_,gE (by omega)⟩
  have qs:=hs1 q (gM hq)
  obtain ⟨r1,r2⟩:=WN (inn:=inn) (st:=s1) (x:=⟨8,j,j,AM bs j+1,0,0,0⟩) (j:=j) rfl (by omega)
  have i2:Gz ⟨8,j,j,AM bs j+1,0,0,0⟩ s1.1 inn=min q (Dq y.un y.ue (scA F j)):=by
   rw [Aer rfl (by show s1.1[((j:Int)).toNat]?=_;rw [am];exact hq) hf]
   show min (scl _ 0) (scl _ 0)=_
   rw [Mz qs,Mz shi]
  have ms:Bc (min q (Dq y.un y.ue (scA F j)))=true:=by
   have h1:=EF qs
   have h2:=EF shi
   exact decide_eq_true (by omega)
  rw [i2,ms] at r1
  rw [i2] at r2
  refine ⟨by rw [r1,o1];simp,fun h=>?_⟩
  have hqp:=hq.symm.trans (o2 h)
  cases hqp
  exact ⟨r2 ms,ms⟩
 have hcc:Ge ps F inn y (scA F j) (zC bs cs V)=Fi ps F inn y (scA F j) (zC bs cs V):=by unfold Ge;rw [if_neg k11]
 have blk:Fb ps bs F j (AM bs j)=[⟨opM y.kind,j,a,0,scA F j - scA F a.toNat,0,0⟩]:=by unfold Fb;dsimp only;rw [hYA,if_neg k0,if_neg k1,if_neg k6,if_neg k7,if_neg k11,if_neg (by omega),Aa]
 have:=hone ⟨opM y.kind,j,a,0,scA F j - scA F a.toNat,0,0⟩ rfl
 rw [blk,hcc]
 have hk:=Ow he hy
 rcases (show y.kind=5∨y.kind=10 by omega) with q|q
 ·rw [AiV (by rw [q];rfl) hw] at this
  have hp:Fi ps F inn y (scA F j) (zC bs cs V) = -scl (zC bs cs V a) (scA F j - scA F a.toNat):=by unfold Fi;rw [if_neg k0,if_neg k1,if_neg k6,if_neg k7,if_neg k11,if_neg (by omega),if_neg (by omega),if_neg (by omega),if_neg (by omega),if_pos q,Aa]
  exact Rz
 ·rw [AiX (by rw [q];rfl) hw] at this
  have hp:Fi ps F inn y (scA F j) (zC bs cs V)=max (scl (zC bs cs V a) (scA F j - scA F a.toNat)) (-scl (zC bs cs V a) (scA F j - scA F a.toNat)):=by unfold Fi;rw [if_neg k0,if_neg k1,if_neg k6,if_neg k7,if_neg k11,if_neg (by omega),if_neg (by omega),if_neg (by omega),if_neg (by omega),if_neg (by omega),Aa]
  exact Rz
def nxC (bs:List Bk) (F cs V:List Int) (j:Nat):Int:=scl (zC bs cs V (Bt (PF bs j))) (scA F j - scA F (Bt (PF bs j)).toNat)
def mvK (bs:List Bk) (F inn:List Int) (st:List Int × Bool) (t:Nat):List Int × Bool:=(((Bx bs).take t).map (mv1 bs F)).foldl (De inn) st
theorem AhB (hj:(Bx bs)[t]?=some j):mvK bs F inn st (t+1)=[mv1 bs F j].foldl (De inn) (mvK bs F inn st t):=by
 unfold mvK
 rw [aw,hj]
 simp [fo]
theorem AeC (hi:i<bs.length∨bs.length+t≤i):(mvK bs F inn st t).1[i]?=st.1[i]?:=by
 refine FH fun x hx=>?_
 obtain ⟨q,hq,rfl⟩:=List.mem_map.1 hx
 obtain ⟨k,hk⟩:=dt hq
 rw [bq] at hk
 split at hk
 ·show (AM bs q).toNat≠i
  rw [Ic hk]
  omega
 ·cases hk
theorem Amt (he:Bl ps bs os=0) (hc:GX ps bs F=0) (hC:Ajb bs F cs) :
  ((Gk inn (Cg ps bs F) cs).2=false ↔ (stL ps bs F inn cs).2=false∧∀ j∈Bx bs,Bc (nxC bs F cs (stL ps bs F inn cs).1 j)=true) ∧
  (∀ i,i<bs.length→AG bs i≠2→(Gk inn (Cg ps bs F) cs).1[i]?=(stL ps bs F inn cs).1[i]?) ∧
  ((Gk inn (Cg ps bs F) cs).2=false→∀ j∈Bx bs,(Gk inn (Cg ps bs F) cs).1[j]?=some (nxC bs F cs (stL ps bs F inn cs).1 j)) ∧
  Ajb bs F (Gk inn (Cg ps bs F) cs).1:=by
 have hil:=Ib bs F
 have hcl:=hC.len
 rw [←GV] at hil
 have hlen:(stL ps bs F inn cs).1.length=cs.length:=Qf _
 have hshort:∀ z∈(stL ps bs F inn cs).1,Bc z=true:=Hh hC.short _
 have hzr:=fun (a:Int)=>SR (a:=a) hC (V:=(stL ps bs F inn cs).1) (Qf _) (Hh hC.short _)
 have hdl:∀ i,i<bs.length→AG bs i=2→(stL ps bs F inn cs).1[i]?=cs[i]?:=fun i _ h2=>Qg fun h=>(Ig (dj h)).2 h2
 have hcode:Gk inn (Cg ps bs F) cs=((Bx bs).map (mv2 bs)).foldl (De inn) (mvK bs F inn (stL ps bs F inn cs) (Bx bs).length):=by
  unfold Gk Cg mvK stL stK
  rw [ay,ay]
  simp only [fo]
 generalize hL:stL ps bs F inn cs=L at hlen hshort hzr hdl hcode ⊢
 -- the moves
 have key:∀ t,t≤(Bx bs).length→((mvK bs F inn L t).2=false ↔ L.2=false∧∀ (k j:Nat),k<t→(Bx bs)[k]?=some j→Bc (nxC bs F cs L.1 j)=true)∧(∀ (k j:Nat),k<t→(Bx bs)[k]?=some j→Bc (nxC bs F cs L.1 j)=true→(mvK bs F inn L t).1[bs.length+k]?=some (nxC bs F cs L.1 j)):=by
  intro t
  induction t with
  | zero=>exact fun _=>⟨⟨fun h=>⟨h,fun k j hk=>absurd hk (fk _)⟩,fun h=>h.1⟩,fun k j hk=>absurd hk (fk _)⟩
  | succ t ih =>
   intro ht
   obtain ⟨i1,i2⟩:=ih (by omega)
   obtain ⟨j,hj⟩:∃ j,(Bx bs)[t]?=some j:=⟨_,gE (by omega)⟩
   have hjm:=Lu.1 (gM hj)
   obtain ⟨y,hy⟩:∃ y,bs[j]?=some y:=⟨_,gE hjm.1⟩
   have hyk:y.kind=2:=by rw [←Ck hy];exact hjm.2
   have hac:=Cl he hy
   have hck:=hac.2.1
   have hl:y.args.length=1:=by rw [hyk] at hck;simp [AO] at hck;omega
   obtain ⟨a,ha⟩:∃ a,y.args[0]?=some a:=⟨_,gE (by omega)⟩
   have h1:=hac.2.2 a (gM ha)
   rw [show Cn ps.length bs.length y.kind=bs.length from if_neg (by omega)] at h1
   have Aa:Bt (PF bs j)=a:=by rw [Di hy];unfold Bt;rw [ha];rfl
   have hz:=(hzr a h1.1 h1.2).1
   have hbef:AaI bs cs L.1 a.toNat=L.1[a.toNat]?:=by
    unfold AaI
    by_cases h2:AG bs a.toNat=2
    ·rw [if_pos h2,hdl _ (by omega) h2]
    ·rw [if_neg h2]
   have hcell:(mvK bs F inn L t).1[a.toNat]?=some (zC bs cs L.1 a):=by rw [AeC (.inl (by omega)),←hbef];exact hz
   have hins:Gz (mv1 bs F j) (mvK bs F inn L t).1 inn=nxC bs F cs L.1 j:=by
    rw [SN (w:=zC bs cs L.1 a) rfl (by show (mvK bs F inn L t).1[(Bt (PF bs j)).toNat]?=_;rw [Aa];exact hcell)]
    unfold nxC
    rw [Aa]
    show scl _ (scA F j - scA F (Bt (PF bs j)).toNat)=_
    rw [Aa]
   have hml:(mvK bs F inn L t).1.length=L.1.length:=MD
   obtain ⟨o1,o2⟩:=WN (inn:=inn) (st:=mvK bs F inn L t) (x:=mv1 bs F j) (j:=bs.length+t) (by show AM bs j=_;rw [Ic hj];omega) (by omega)
   rw [hins] at o1 o2
   rw [AhB hj]
   constructor
   ·rw [o1,ke,i1,Bool.not_eq_false']
    constructor
    ·rintro ⟨⟨g1,g2⟩,g3⟩
     refine ⟨g1,fun k j' hk hj'=>?_⟩
     by_cases hkt:k=t
     ·subst hkt
      rw [hj] at hj'
      cases hj'
      exact g3
     ·exact g2 k j' (by omega) hj'
    ·rintro ⟨g1,g2⟩
     exact ⟨⟨g1,fun k j' hk hj'=>g2 k j' (by omega) hj'⟩,g2 t j (by omega) hj⟩
   ·intro k j' hk hj' hs
    by_cases hkt:k=t
    ·subst hkt
     rw [hj] at hj'
     cases hj'
     exact o2 hs
    ·refine (FH fun x hx=>?_).trans (i2 k j' (by omega) hj' hs)
     rw [List.mem_singleton.1 hx]
     show (AM bs j).toNat≠_
     rw [Ic hj]
     omega
 obtain ⟨k1,k2⟩:=key _ (aa _)
 have hms:∀ z∈(mvK bs F inn L (Bx bs).length).1,Bc z=true:=Ie hshort
 have hml:(mvK bs F inn L (Bx bs).length).1.length=L.1.length:=MD
 obtain ⟨_,m1,m2,m3⟩:=UX (bs:=bs) (inn:=inn) (st:=mvK bs F inn L (Bx bs).length) (by omega) hms (Bx bs).length (aa _)
 rw [ay] at m1 m2 m3
 have flag2:∀ (l:List Nat) (st:List Int × Bool),(∀ q∈l,q∈Bx bs)→bs.length+(Bx bs).length≤st.1.length→(∀ z∈st.1,Bc z=true)→((l.map (mv2 bs)).foldl (De inn) st).2=st.2:=by
  intro l
  induction l with
  | nil=>exact fun _ _ _ _=>rfl
  | cons q l ih =>
   intro st hm hsl hss
   rw [ce,jw,ih _ (fun x hx=>hm x (ij _ hx)) (by show _≤(st.1.set _ _).length;rw [dp];exact hsl) (fun z hz=>by
    rcases kj hz with hz|rfl
    ·exact hss z hz
    ·exact Ns _)]
   obtain ⟨t,ht⟩:=dt (hm q (ii ..))
   have htl:=(gS.1 ht).1
   obtain ⟨z,hz⟩:∃ z,st.1[bs.length+t]?=some z:=⟨_,gE (by omega)⟩
   have hzs:=hss z (gM hz)
   have hv:Gz (mv2 bs q) st.1 inn=z:=by
    rw [SN (w:=z) rfl (by show st.1[(AM bs q).toNat]?=_;rw [Ic ht,show ((bs.length:Int)+(t:Int)).toNat=bs.length+t by omega];exact hz)]
    exact Mz hzs
   show (st.2 || !Bc (Gz (mv2 bs q) st.1 inn))=_
   rw [hv,hzs]
   simp
 have hfl:(Gk inn (Cg ps bs F) cs).2=(mvK bs F inn L (Bx bs).length).2:=by rw [hcode];exact flag2 _ _ (fun q hq=>hq) (by omega) hms
 have hflag:(Gk inn (Cg ps bs F) cs).2=false ↔ L.2=false∧∀ j∈Bx bs,Bc (nxC bs F cs L.1 j)=true:=by
  rw [hfl,k1]
  refine and_congr_right fun _=>⟨fun h j hj=>?_,fun h k j _ hj=>h j (gM hj)⟩
  obtain ⟨t,ht⟩:=dt hj
  exact h t j (gS.1 ht).1 ht
 refine ⟨hflag,fun i hi h2=>?_,fun h j hj=>?_,?_,?_,?_⟩
 ·rw [hcode]
  refine (FH fun x hx=>?_).trans (AeC (.inl hi))
  obtain ⟨q,hq,rfl⟩:=List.mem_map.1 hx
  have:=Lu.1 hq
  show ((q:Int)).toNat≠i
  intro h
  have:q=i:=by omega
  subst this
  omega
 ·obtain ⟨t,ht⟩:=dt hj
  have htl:=(gS.1 ht).1
  rw [hcode,m3 t j htl ht,k2 t j htl ht ((hflag.1 h).2 j hj)]
 ·rw [SO];exact hcl
 ·exact fun z hz=>decide_eq_true (Ry (inn:=inn) hC.short z hz)
 ·intro c hc2
  refine (FH fun x hx=>?_).trans (hC.up c hc2)
  have:=Ahy hx
  omega
end
section
variable {n d:Nat}
theorem Ajd {p q:Pq} (hp:Sm p n d) (hq:Sm q n d) (hd:d≤30000):gv (Wl (p,p) (q,q)).1=gv (Cz p q)∧gv (Wl (p,p) (q,q)).2=gv (Cz p q):=by
 have m:Sm (Cz p q) (n+n) (d+d):=Sm.mul hp hq hd
 obtain ⟨e1,e2,_⟩:=EL m m m m
 exact ⟨by show gv (Dd [Cz p q,Cz p q,Cz p q,Cz p q]).1=_;rw [e1];omega,by show gv (Dd [Cz p q,Cz p q,Cz p q,Cz p q]).2=_;rw [e2];omega⟩
theorem WO {p q:Pq} (hp:Sm p n d) (hq:Sm q n d) (hd:d≤30000):gv (Cz p q)=gv (Cz q p):=by
 have h1:=hp.d
 have h2:=hq.d
 have e1:=IB (p:=p) (q:=q) (by show p.2+q.2≤65536;omega)
 have e2:=IB (p:=q) (q:=p) (by show q.2+p.2≤65536;omega)
 refine en (fm (Cf GQ)) ?_
 rw [e1,e2,bz]
theorem Aqr {p:Pq} (hp:Sm p n d):gv (Rj (p,p)).1=gv (IG p)∧gv (Rj (p,p)).2=gv (IG p):=by
 obtain ⟨e1,e2⟩:gv (Rj (p,p)).1=(if gv p<0∧0<gv p then 0 else min ((gv p).natAbs:Int) (gv p).natAbs)∧gv (Rj (p,p)).2=max ((gv p).natAbs:Int) (gv p).natAbs:=Nj (IwS.pt hp)
 rw [show gv (IG p)=_ from ND p]
 refine ⟨?_,by rw [e2];omega⟩
 rw [e1,if_neg (by omega)]
 omega
end
def ptL (l:List Pq):List Iq:=l.map fun p=>(p,p)
theorem AeD (l:List Pq) (k:Nat):(ptL l)[k]?.getD iZ=(l[k]?.getD (0,0),l[k]?.getD (0,0)):=by
 unfold ptL
 rw [ag]
 cases l[k]? <;> rfl
theorem Aqs {n d:Nat} (h:∀ p∈l,Sm p n d):∀ a∈ptL l,IwS a n d:=fun a ha=>by
 obtain ⟨p,hp,rfl⟩:=List.mem_map.1 ha
 exact .pt (h p hp)
theorem Aqt {y:Bk} (hl:∀ p∈l,Sm p LB LB) (hv:(y.kind=1∨y.kind=6∨y.kind=11)→Df y.vn y.ve) (hu:y.kind=11→Df y.un y.ue) (hk:y.kind=1∨y.kind=3∨y.kind=4∨y.kind=5∨y.kind=6∨y.kind=7∨y.kind=8∨y.kind=9∨y.kind=10∨y.kind=11):gv (Gc y (ptL l)).1=gv (FL y l)∧gv (Gc y (ptL l)).2=gv (FL y l):=by
 have a:=CL hl 0
 have b:=CL hl 1
 unfold Gc FL
 rw [AeD,AeD]
 generalize l[0]?.getD (0,0)=p at a ⊢
 generalize l[1]?.getD (0,0)=q at b ⊢
 rcases hk with h|h|h|h|h|h|h|h|h|h <;> simp only [h,Int.reduceEq,if_true,if_false,reduceIte]
 ·exact ⟨trivial,trivial⟩
 ·exact ⟨rfl,rfl⟩
 ·exact ⟨rfl,rfl⟩
 ·exact ⟨rfl,rfl⟩
 ·have s:=Fc (hv (.inr (.inl h)))
  have e:=Ajd a s (by decide:LB≤30000)
  have c:=WO s a (by decide:LB≤30000)
  exact ⟨e.1.trans c.symm,e.2.trans c.symm⟩
 ·exact Ajd a b (by decide:LB≤30000)
 ·exact ⟨rfl,rfl⟩
 ·exact ⟨rfl,rfl⟩
 ·exact Aqr a
 ·exact ⟨rfl,rfl⟩
def vIn (v:Pq) (r:Iq):Prop:=gv r.1≤gv v∧gv v≤gv r.2
theorem Amu {y:Bk} {L:List Iq} (hl:∀ p∈l,Sm p LB LB) (hL:∀ p∈L,IwS p LB LB) (hi:∀ k:Nat,vIn (l[k]?.getD (0,0)) (L[k]?.getD iZ)) (hv:(y.kind=1∨y.kind=6∨y.kind=11)→Df y.vn y.ve) (hu:y.kind=11→Df y.un y.ue) (hk:y.kind=1∨y.kind=3∨y.kind=4∨y.kind=5∨y.kind=6∨y.kind=7∨y.kind=8∨y.kind=9∨y.kind=10∨y.kind=11):vIn (FL y l) (Gc y L):=by
 obtain ⟨e1,e2⟩:=Aqt hl hv hu hk
 have h:=Aqe (Aqs hl) hL (fun k=>by rw [AeD];exact hi k) hv hu hk
 obtain ⟨h1,h2⟩:=h
 exact ⟨by rw [←e1];exact h1,by rw [←e2];exact h2⟩
theorem AhC {p:Prt} (h:Wy p) (h1:p.lo≤z) (h2:z≤p.hi):vIn (Ac z 0 (-p.fr)) (Mw p):=by
 have e0:=Ha (z:=z) h.f0 h.f1
 have e1:gv (Mw p).1*2 ^ p.fr.toNat=p.lo*2 ^ GQ:=Ha (z:=p.lo) h.f0 h.f1
 have e2:gv (Mw p).2*2 ^ p.fr.toNat=p.hi*2 ^ GQ:=Ha (z:=p.hi) h.f0 h.f1
 have p2:=Cf p.fr.toNat
 have g1:=dc h1 (bl (Cf GQ))
 have g2:=dc h2 (bl (Cf GQ))
 exact ⟨gi (by rw [e0,e1];exact g1) p2,gi (by rw [e0,e2];exact g2) p2⟩
def Nr (U z V B:Int):Prop := -B≤z*U - V∧z*U - V≤B
theorem AhD {b A B:Int} (h1 : -A≤a) (h2:a≤A) (h3 : -B≤b) (h4:b≤B) : -(A*B)≤a*b∧a*b≤A*B:=by
 have h:=UP h1 h2 h3 h4
 rw [Int.neg_mul_neg,ct,Int.mul_neg] at h
 have hA:0≤A:=by omega
 have hB:0≤B:=by omega
 have hAB:=jd hA hB
 omega
abbrev uN (s:Int):Int:=2 ^ (GQ - s.toNat)
theorem Aje {k:Int} {a:Nat} (hk:k=(b:Int) - a) (h0:0≤k) (hz : -4294967296≤z∧z≤4294967296):scl z k*2 ^ a=z*2 ^ b:=by
 unfold scl
 rw [if_neg (by omega),show max (-4294967296) (min z 4294967296)=z by omega,show b=k.toNat+a by omega,ao,ai]
theorem Aqu (h0:0≤s) (h1:s≤30):gv (pw (-s))=uN s:=Asl h0 h1
theorem Aqv (h0:0≤s) (h1:s≤30):gv (ixP true s)=uN s:=Aqu h0 h1
theorem Aqw:gv (ixP false s)=0:=Wc
theorem WP {v:Pq} (s0:0≤s) (s1:s≤30) (a0:0≤sG F a) (a1:sG F a≤30) (hE:∀ p∈E,Sm p LB LB) (z0 : -2147483648≤z) (z1:z<2147483648) (h:Nr (uN (sG F a)) z (gv v) (gv (eG E a))):Nr (uN s) (scl z (s - sG F a)) (gv v) (gv (mvP F E s a)):=by
 have e:s - sG F a=((GQ - (sG F a).toNat:Nat):Int) - ((GQ - s.toNat:Nat):Int):=by unfold GQ;omega
 unfold Nr at h ⊢
 unfold mvP
 by_cases hs:sG F a≤s
 ·rw [if_pos hs,Aje (z:=z) e (by omega) ⟨by omega,by omega⟩];exact h
 ·rw [if_neg hs,show gv (Ee (eG E a) (pw (-s)))=_ from DN (NX hE a).le (Aae s0 s1).le,Aqu s0 s1]
  have:=YO (z:=z) e (.inr ⟨by omega,by omega⟩)
  unfold uN at *
  omega
theorem ME (s0:0≤s) (s1:s≤30) (h:rwB n e s=true):Nr (uN s) (Dq n e s) (gv (Ac n 0 e)) (gv (ixP (!BN n e s) s))∧Df n e:=by
 have h:=of_decide_eq_true h
 obtain ⟨n0,n1,e0,e1,hv⟩:=Amq h
 have hsc:Df n e:=by
  refine ⟨n0,n1,e0,e1⟩
 refine ⟨?_,hsc⟩
 have sm:=Fc hsc
 have hg:gv (Ac n 0 e)=n*2 ^ (65536+e).toNat:=by
  have h1:=Rp.shift (x:=n) (k:=e) (by omega) (by omega)
  unfold Rp at h1
  have h2:=PE (p:=Ac n 0 e) sm.le
  have h3:(Ac n 0 e).2≤200:=(Sm.shift (n:=32) (x:=n) (k:=e) (by omega) (by omega) (by omega)).d
  have h4:n*2 ^ (65536+e).toNat*2 ^ (Ac n 0 e).2=n*2 ^ (e+200).toNat*2 ^ (Ac n 0 e).2*2 ^ (65536 - 200):=by
   rw [ai (n*_),bz (2 ^ (Ac n 0 e).2) (2 ^ (65536 - 200)),←ai]
   congr 1
   rw [ai,←ao]
   congr 2
   omega
  have h5:gv (Ac n 0 e)*2 ^ (Ac n 0 e).2=n*2 ^ (65536+e).toNat*2 ^ (Ac n 0 e).2:=by
   rw [←h2,h4,←h1,ai,←ao]
   rfl
  exact en (Rg _) h5
 have hf:=Aez (z:=n) (k:=e+s) (a:=GQ - s.toNat) (b:=(65536+e).toNat) (by unfold GQ;omega)
 rw [←hg,←hv] at hf
 unfold Nr
 cases hw:BN n e s with
 | false=>rw [fd,Aqv s0 s1];unfold uN;omega
 | true =>
  rw [fb,Aqw]
  have hw2:=of_decide_eq_true hw
  have h6:gv (Gy (Ac n 0 e) s)=gv (Ac n 0 e)*2 ^ s.toNat:=by
   have:=Mg (p:=Ac n 0 e) (n:=s.toNat) sm.le (by omega)
   rwa [show ((s.toNat:Nat):Int)=s by omega] at this
  have h7:gv (Gy (Ac n 0 e) s)=(Gy (Ac n 0 e) s).1*2 ^ GQ:=by unfold gv;rw [hw2];rfl
  generalize (Gy (Ac n 0 e) s).1=w at h7
  have h8:gv (Ac n 0 e)=w*2 ^ (GQ - s.toNat):=by
   have h9:gv (Ac n 0 e)*2 ^ s.toNat=w*2 ^ (GQ - s.toNat)*2 ^ s.toNat:=by
    rw [←h6,h7,ai,←ao]
    congr 2
    unfold GQ
    omega
   exact en (Rg _) h9
  rw [h8] at hf ⊢
  have hp:(0:Int)<2 ^ (GQ - s.toNat):=Cf _
  have key:Dq n e s=w:=by
   rw [←ej] at hf
   have k1:0≤w - Dq n e s:=cw fun hn=>by
    have:=mi (show w - Dq n e s<0 by omega) hp
    omega
   have k2:¬ 1≤w - Dq n e s:=fun hn=>by
    have:=dc hn (bl hp)
    omega
   omega
  rw [key]
  unfold uN
  omega
theorem Aau {v:Pq} {r:Iq} {e:Pq} (s0:0≤s) (s1:s≤30) (hr:IwS r LB LB) (he:Sm e LB LB) (hv:vIn v r) (h:Nr (uN s) z (gv v) (gv e)) (hf:IL (Ee (Gb r) e) s=true) : -2147483647≤z∧z≤2147483647:=by
 have sM:=Rs hr
 rw [YE (Sm.sum sM he (by decide)) (by decide) s0 s1,decide_eq_true_eq,show gv (Ee (Gb r) e)=_ from DN sM.le he.le] at hf
 have hm:gv (Gb r)=_:=(Nj hr).2
 have e1:(2:Int) ^ GQ=uN s*2 ^ s.toNat:=by
  unfold uN
  rw [←ao]
  congr 1
  unfold GQ
  omega
 rw [e1,←ai] at hf
 have h2:gv (Gb r)+gv e≤2147483647*uN s:=gi hf (Cf _)
 have hp:0<uN s:=Cf _
 unfold Nr at h
 unfold vIn at hv
 have u1:z*uN s≤2147483647*uN s:=by omega
 have u2 : -2147483647*uN s≤z*uN s:=by rw [ct];omega
 exact ⟨gi u2 hp,gi u1 hp⟩
theorem WQ {U V B B':Int} (h:Nr U z V B) (hb:B≤B'):Nr U z V B':=by unfold Nr at *;omega
theorem AeE {k:Int} (h : -2147483648≤shE z k∧shE z k≤2147483648):scl z k=shE z k:=by
 unfold scl shE at *
 by_cases hk:k<0
 ·rw [if_pos hk,if_pos hk]
 ·rw [if_neg hk] at h ⊢
  rw [if_neg hk]
  have hp:(1:Int)≤2 ^ k.toNat:=Cf _
  congr 1
  have key : -2147483648≤z∧z≤2147483648:=by
   rcases Int.le_total 0 z with hz|hz
   ·have:=mj hp hz
    omega
   ·have:=Int.mul_le_mul_of_nonpos_left hz hp
    omega
  omega
section
variable {ps:List Prt} {bs:List Bk} {os:List Int} {c:Ct}
theorem AeF (A:He ps bs os c) {j:Nat} {y:Bk} (hy:bs[j]?=some y) (k0:y.kind≠0):∀ a∈y.args,0≤a∧a<bs.length∧0≤sG c.F a∧sG c.F a≤30:=fun a ha=>by
 have h1:=(Cl A.he hy).2.2 a ha
 rw [show Cn ps.length bs.length y.kind=bs.length from if_neg k0] at h1
 have hs:=(A.parts hy).1
 unfold DG at hs
 have h2:=(Bool.and_eq_true_iff.1 (Bool.and_eq_true_iff.1 hs).2).1
 rw [decide_eq_false k0,ei] at h2
 have h3:0≤sG c.F a∧sG c.F a≤30:=of_decide_eq_true (List.all_eq_true.1 h2 a ha)
 exact ⟨h1.1,h1.2,h3⟩
theorem UZ (A:He ps bs os c) {j:Nat} {y:Bk} (hy:bs[j]?=some y):Qo ps c.F y (scA c.F j)=true:=by
 have hs:=(A.parts hy).1
 unfold DG at hs
 exact (Bool.and_eq_true_iff.1 (Bool.and_eq_true_iff.1 hs).2).2
structure Gf (c:Ct) (j:Nat) (z:Int) (v:Pq):Prop where
 nr:Nr (uN (scA c.F j)) z (gv v) (gv (c.E[j]?.getD (0,0)))
 vin:vIn v (c.R[j]?.getD iZ)
 z0 : -2147483648≤z
 z1:z<2147483648
theorem He.cell_of (A:He ps bs os c) {j:Nat} {y:Bk} (hy:bs[j]?=some y) {z:Int} {v:Pq} (hv:vIn v (c.R[j]?.getD iZ)) (hn:Nr (uN (scA c.F j)) z (gv v) (gv (AU ps c.F c.R c.E y (scA c.F j)))):Gf c j z v:=by
 obtain ⟨_,_,hb,hf,s0,s1⟩:=A.parts hy
 have hn2:=WQ hn hb
 unfold Ahq at hf
 have:=Aau s0 s1 (Bp A.ok.sR j) (CL A.ok.sE j) hv hn2 (Bool.and_eq_true_iff.1 hf).1
 exact ⟨hn2,hv,by omega,by omega⟩
theorem He.rng (A:He ps bs os c) {j:Nat} {y:Bk} (hy:bs[j]?=some y) {v:Pq} {r:Iq} (hr:IK ps c.R y=r) (hi:IwS r 20000 20000) (hv:vIn v r):vIn v (c.R[j]?.getD iZ):=by
 have h:=(A.parts hy).2.1
 unfold CN at h
 rw [hr,Aqd hi ((Bp A.ok.sR j).more (by decide) (by decide))] at h
 unfold gIn at h
 unfold vIn at hv ⊢
 omega
theorem He.cell (A:He ps bs os c) {j:Nat} {y:Bk} (hy:bs[j]?=some y) (k2:y.kind≠2) {inn:List Int} (hin:Ut ps inn=true) (hil:inn.length=ps.length) {z:Int→Int} {V:List Pq} (hV:∀ p∈V,Sm p LB LB) (hA:y.kind≠0→∀ a∈y.args,∃v,V[a.toNat]?=some v∧Gf c a.toNat (z a) v) :
  Gf c j (Ge ps c.F inn y (scA c.F j) z) (Dc y (Dv V y) ps inn)∧Bc (Fi ps c.F inn y (scA c.F j) z)=true:=by
 obtain ⟨_,hrg,hb,hf,s0,s1⟩:=A.parts hy
 have hsh:=UZ A hy
 have hac:=Cl A.he hy
 have hck:=hac.2.1
 have hcg:=hac.1
 have hym:=gM hy
 have fin:∀ {m:Int} {v:Pq},Fi ps c.F inn y (scA c.F j) z=m→y.kind≠11→Gf c j m v→Gf c j (Ge ps c.F inn y (scA c.F j) z) v∧Bc (Fi ps c.F inn y (scA c.F j) z)=true:=fun {m v} hm k11 hc=>by
  unfold Ge
  rw [if_neg k11,hm]
  exact ⟨hc,decide_eq_true ⟨hc.z0,by have:=hc.z1;omega⟩⟩
 by_cases k0:y.kind=0
 ·have hl:y.args.length=1:=by rw [k0] at hck;simp [AO] at hck;omega
  obtain ⟨a,ha⟩:∃ a,y.args[0]?=some a:=⟨_,gE (by omega)⟩
  have h1:=hac.2.2 a (gM ha)
  rw [show Cn ps.length bs.length y.kind=ps.length from if_pos k0] at h1
  obtain ⟨p,hp⟩:∃ p,ps[a.toNat]?=some p:=⟨_,gE (by omega)⟩
  obtain ⟨r,hr⟩:∃ r,inn[a.toNat]?=some r:=⟨_,gE (by omega)⟩
  have hrr:=Air hin hp hr
  have P:=UJ A.he hp
  have f0:=P.l0;have f1:=P.le;have f2:=P.h1;have f3:=P.f0;have f4:=P.f1
  have Aa:Bt y=a:=by unfold Bt;rw [ha];rfl
  have hfr:FE ps a=p.fr:=by unfold FE;rw [hp];rfl
  have hpre:Fi ps c.F inn y (scA c.F j) z=scl r (scA c.F j - p.fr):=by unfold Fi;rw [if_pos k0,Aa,hr,hfr];rfl
  have hval:Dc y (Dv V y) ps inn=Ac r 0 (-p.fr):=by unfold Dc;rw [if_pos k0,ha];simp [hr,hp]
  have hri:IK ps c.R y=Mw p:=by unfold IK FF;rw [if_neg k2,if_pos k0,ha];simp [hp]
  refine fin hpre (by omega) ?_
  rw [hval]
  refine A.cell_of hy (A.rng hy hri (P.iw.more (by decide) (by decide)) (AhC P hrr.1 hrr.2)) ?_
  have hbe:AU ps c.F c.R c.E y (scA c.F j)=ixP (decide (scA c.F j<p.fr)) (scA c.F j):=by unfold AU;rw [if_pos k0,Aa,hfr]
  have hg:=Ha (z:=r) f3 f4
  have e:scA c.F j - p.fr=((GQ - p.fr.toNat:Nat):Int) - ((GQ - (scA c.F j).toNat:Nat):Int):=by unfold GQ;omega
  have hgv:gv (Ac r 0 (-p.fr))=r*2 ^ (GQ - p.fr.toNat):=by
   refine en (Rg p.fr.toNat) ?_
   rw [hg,ai,←ao]
   congr 2
   unfold GQ
   omega
  unfold Nr
  rw [hbe,hgv]
  by_cases hs:scA c.F j<p.fr
  ·rw [decide_eq_true hs,Aqv s0 s1]
   have:=YO (z:=r) e (.inr ⟨by omega,by omega⟩)
   unfold uN
   omega
  ·rw [decide_eq_false hs,Aqw]
   unfold uN
   rw [Aje e (by omega) (by omega)]
   omega
 have hag:=AeF A hy k0
 have hA:=hA k0
 have hrv:IK ps c.R y=Gc y (CY c.R y):=by unfold IK FF;rw [if_neg k2,if_neg k0]
 have hval:Dc y (Dv V y) ps inn=FL y (Dv V y):=if_neg k0
 have hk:=Ow A.he hy
 have hk':y.kind=1∨y.kind=3∨y.kind=4∨y.kind=5∨y.kind=6∨y.kind=7∨y.kind=8∨y.kind=9∨y.kind=10∨y.kind=11:=by omega
 have hsv:(y.kind=1∨y.kind=6∨y.kind=11)→Df y.vn y.ve:=fun h=>Mn A.he hy (by unfold Pt;rcases h with h|h|h <;> rw [h] <;> rfl)
 have hsu:y.kind=11→Df y.un y.ue:=fun h=>(Ms A.he hy h).2.1
 have hl:∀ p∈Dv V y,Sm p LB LB:=Ahp hV
 have hL:∀ p∈CY c.R y,IwS p LB LB:=DF A.ok.sR
 have argk:∀ (n:Nat) (a:Int),y.args[n]?=some a→∃ v,(Dv V y)[n]?=some v∧Gf c a.toNat (z a) v∧Sm v LB LB:=fun n a ha=>by
  obtain ⟨v,h1,h2⟩:=hA a (gM ha)
  exact ⟨v,Aho k0 ha h1,h2,hV v (gM h1)⟩
 have hin2:vIn (FL y (Dv V y)) (c.R[j]?.getD iZ):=by
  refine A.rng hy hrv ((GZ hL hsv hsu hk').more (by decide) (by decide)) (Amu hl hL (fun k=>?_) hsv hsu hk')
  rcases ha:y.args[k]? with _|a
  ·have e1:(Dv V y)[k]?=none:=by rw [ji,Aec k0];exact List.getElem?_eq_none_iff.1 ha
   have e2:(CY c.R y)[k]?=none:=by rw [ji,Aed k0];exact List.getElem?_eq_none_iff.1 ha
   rw [e1,e2]
   exact ⟨fi _,fi _⟩
  ·obtain ⟨v,h1,h2,_⟩:=argk k a ha
   have hlt:=(hag a (gM ha)).2.1
   have a0:=(hag a (gM ha)).1
   obtain ⟨r,hr⟩:∃ r,c.R[a.toNat]?=some r:=⟨_,gE (by rw [A.ok.lR];omega)⟩
   rw [h1,CD k0 ha hr]
   have:=h2.vin
   rw [hr] at this
   exact this
 rw [hval]
 have put:=fun {m:Int} (hn:Nr (uN (scA c.F j)) m (gv (FL y (Dv V y))) (gv (AU ps c.F c.R c.E y (scA c.F j))))=>A.cell_of hy hin2 hn
 by_cases k1:y.kind=1
 ·have hrw:rwB y.vn y.ve (scA c.F j)=true:=by unfold Qo at hsh;rw [if_neg k0,if_pos k1] at hsh;exact hsh
  refine fin (m:=Dq y.vn y.ve (scA c.F j)) (by unfold Fi;rw [if_neg k0,if_pos k1]) (by omega) (put ?_)
  rw [show FL y (Dv V y)=Ac y.vn 0 y.ve by unfold FL;rw [if_pos k1],show AU ps c.F c.R c.E y (scA c.F j)=ixP (!BN y.vn y.ve (scA c.F j)) (scA c.F j) by unfold AU;rw [if_neg k0,if_pos k1]]
  exact (ME s0 s1 hrw).1
 have hl1:1≤y.args.length:=by unfold AO at hck hcg;(repeat' split at hck) <;> omega
 obtain ⟨a,ha⟩:∃ a,y.args[0]?=some a:=⟨_,gE (by omega)⟩
 have Aa:Bt y=a:=by unfold Bt;rw [ha];rfl
 obtain ⟨a0,a1,b0,b1⟩:=hag a (gM ha)
 obtain ⟨v,L0,C0,S0⟩:=argk 0 a ha
 have M0:=WP (F:=c.F) s0 s1 b0 b1 A.ok.sE C0.z0 C0.z1 C0.nr
 by_cases k6:y.kind=6
 ·have sv:=hsv (by omega)
  have sm:=Fc sv
  have sv':=sv
  unfold Df at sv'
  have hgv:gv (Ac y.vn 0 y.ve)=y.vn*2 ^ (65536+y.ve).toNat:=by
   by_cases he:y.ve<0
   ·have h1:=Mh (p:=(y.vn,0)) (n:=(-y.ve).toNat) (by show 0+_≤GQ;unfold GQ;omega) (by omega)
    rw [show -(((-y.ve).toNat:Nat):Int)=y.ve by omega,Mi] at h1
    refine en (Rg (-y.ve).toNat) ?_
    rw [show gv (Ac y.vn 0 y.ve)*2 ^ (-y.ve).toNat=_ from h1,ai,←ao]
    congr 2
    unfold GQ
    omega
   ·have h1:=Mg (p:=(y.vn,0)) (n:=y.ve.toNat) (by show 0≤GQ;omega) (by omega)
    rw [show ((y.ve.toNat:Nat):Int)=y.ve by omega,Mi] at h1
    rw [show gv (Ac y.vn 0 y.ve)=_ from h1,ai,←ao]
    congr 2
    unfold GQ
    omega
  have hB:FL y (Dv V y)=Cz (Ac y.vn 0 y.ve) v:=by unfold FL;simp [k6,L0]
  have hbe:AU ps c.F c.R c.E y (scA c.F j)=Ee (Cz (IG (Ac y.vn 0 y.ve)) (eG c.E a)) (ixP (decide (scA c.F j - sG c.F a+y.ve<0)) (scA c.F j)):=by unfold AU;simp [k6,Aa]
  have hpre:Fi ps c.F inn y (scA c.F j) z=scl (z a*y.vn) (scA c.F j - sG c.F a+y.ve):=by unfold Fi;rw [if_neg k0,if_neg k1,if_pos k6,Aa]
  have m1:=IB (p:=IG (Ac y.vn 0 y.ve)) (q:=eG c.E a) (lT (eo sm.abs.d (NX A.ok.sE a).d) (by decide))
  have m2:=IB (p:=Ac y.vn 0 y.ve) (q:=v) (lT (eo sm.d S0.d) (by decide))
  have hbg:gv (AU ps c.F c.R c.E y (scA c.F j))=gv (Cz (IG (Ac y.vn 0 y.ve)) (eG c.E a))+gv (ixP (decide (scA c.F j - sG c.F a+y.ve<0)) (scA c.F j)):=by
   rw [hbe]
   exact DN (Sm.mul sm.abs (NX A.ok.sE a) (by decide)).le (NY s0 s1).le
  have e:scA c.F j - sG c.F a+y.ve=(((65536+y.ve - sG c.F a).toNat:Nat):Int) - ((GQ - (scA c.F j).toNat:Nat):Int):=by unfold GQ;omega
  have hfl:=Aez (z:=z a*y.vn) e
  have hsc:z a*y.vn*2 ^ (65536+y.ve - sG c.F a).toNat*2 ^ GQ=z a*uN (sG c.F a)*gv (Ac y.vn 0 y.ve):=by
   rw [hgv]
   unfold uN
   rw [ai (z a*y.vn),←ao,show z a*2 ^ (GQ - (sG c.F a).toNat)*(y.vn*2 ^ (65536+y.ve).toNat)=z a*y.vn*(2 ^ (GQ - (sG c.F a).toNat)*2 ^ (65536+y.ve).toNat) by simp only [ai,Int.mul_left_comm],←ao]
   congr 2
   unfold GQ
   omega
  have hnr:=C0.nr
  unfold Nr at hnr
  have hd:=AhD (a:=z a*uN (sG c.F a) - gv v) (A:=gv (eG c.E a)) (b:=gv (Ac y.vn 0 y.ve)) (B:=((gv (Ac y.vn 0 y.ve)).natAbs:Int)) hnr.1 hnr.2 (by omega) (by omega)
  rw [ej,←hsc,bz (gv (eG c.E a)),←ND,←show gv (Cz (IG (Ac y.vn 0 y.ve)) (eG c.E a))*2 ^ GQ=_ from m1,bz (gv v),←show gv (Cz (Ac y.vn 0 y.ve) v)*2 ^ GQ=_ from m2,←ej,←ct] at hd
  have d1:=Gd hd.1
  have d2:=Gd hd.2
  have hn:Nr (uN (scA c.F j)) (shE (z a*y.vn) (scA c.F j - sG c.F a+y.ve)) (gv (FL y (Dv V y))) (gv (AU ps c.F c.R c.E y (scA c.F j))):=by
   rw [hbg,hB]
   unfold Nr
   by_cases hk:scA c.F j - sG c.F a+y.ve<0
   ·rw [decide_eq_true hk,Aqv s0 s1]
    unfold uN
    omega
   ·rw [decide_eq_false hk,Aqw]
    have ex:shE (z a*y.vn) (scA c.F j - sG c.F a+y.ve)*2 ^ (GQ - (scA c.F j).toNat)=z a*y.vn*2 ^ (65536+y.ve - sG c.F a).toNat:=by
     unfold shE
     rw [if_neg hk,ai,←ao]
     congr 2
     omega
    unfold uN
    omega
  have C:=put hn
  refine fin (hpre.trans (AeE ⟨C.z0,by have:=C.z1;omega⟩)) (by omega) C
 by_cases two:y.kind=3∨y.kind=4∨y.kind=7∨y.kind=8∨y.kind=9
 ·have hl2:y.args.length=2:=by unfold AO at hck hcg;(repeat' split at hck) <;> omega
  obtain ⟨b,hb1⟩:∃ b,y.args[1]?=some b:=⟨_,gE (by omega)⟩
  have Ab:FP y=b:=by unfold FP;rw [hb1];rfl
  obtain ⟨_,_,d0,d1⟩:=hag b (gM hb1)
  obtain ⟨w,L1,C1,S1⟩:=argk 1 b hb1
  have M1:=WP (F:=c.F) s0 s1 d0 d1 A.ok.sE C1.z0 C1.z1 C1.nr
  have k11:y.kind≠11:=by omega
  by_cases k7:y.kind=7
  ·have hB:FL y (Dv V y)=Cz v w:=by unfold FL;simp [k7,L0,L1]
   have hpre:Fi ps c.F inn y (scA c.F j) z=scl (z a*z b) (scA c.F j - sG c.F a - sG c.F b):=by unfold Fi;rw [if_neg k0,if_neg k1,if_neg k6,if_pos k7,Aa,Ab]
   have hbe:AU ps c.F c.R c.E y (scA c.F j)=Ee (Ee (Ee (Cz (Gb (rG c.R a)) (eG c.E b)) (Cz (Gb (rG c.R b)) (eG c.E a))) (Cz (eG c.E a) (eG c.E b))) (ixP (decide (scA c.F j - sG c.F a - sG c.F b<0)) (scA c.F j)):=by unfold AU;simp [k7,Aa,Ab]
   have sE:=fun a=>NX A.ok.sE a
   have sM:=fun a=>Rs (WE A.ok.sR a)
   have q1:∀ a b,Sm (Cz (Gb (rG c.R a)) (eG c.E b)) 8192 8192:=fun a b=>Sm.mul (sM a) (sE b) (by decide)
   have q2:∀ a b,Sm (Cz (eG c.E a) (eG c.E b)) 8192 8192:=fun a b=>Sm.mul (sE a) (sE b) (by decide)
   have t1:=Sm.sum (q1 a b) (q1 b a) (by decide)
   have t2:=Sm.sum t1 ((q2 a b).more (n':=16385) (d':=8192) (by decide) (by decide)) (by decide)
   have hbg:gv (AU ps c.F c.R c.E y (scA c.F j))=gv (Cz (Gb (rG c.R a)) (eG c.E b))+gv (Cz (Gb (rG c.R b)) (eG c.E a))+gv (Cz (eG c.E a) (eG c.E b))+gv (ixP (decide (scA c.F j - sG c.F a - sG c.F b<0)) (scA c.F j)):=by
    rw [hbe]
    rw [show gv (Ee (Ee (Ee (Cz (Gb (rG c.R a)) (eG c.E b)) (Cz (Gb (rG c.R b)) (eG c.E a))) (Cz (eG c.E a) (eG c.E b))) _)=_ from DN t2.le (NY s0 s1).le,show gv (Ee (Ee (Cz (Gb (rG c.R a)) (eG c.E b)) (Cz (Gb (rG c.R b)) (eG c.E a))) (Cz (eG c.E a) (eG c.E b)))=_ from DN t1.le (q2 _ _).le,show gv (Ee (Cz (Gb (rG c.R a)) (eG c.E b)) (Cz (Gb (rG c.R b)) (eG c.E a)))=_ from DN (q1 _ _).le (q1 _ _).le]
   have m0:=IB (p:=v) (q:=w) (lT (eo S0.d S1.d) (by decide))
   have m1:=IB (p:=Gb (rG c.R a)) (q:=eG c.E b) (lT (eo (sM a).d (sE b).d) (by decide))
   have m2:=IB (p:=Gb (rG c.R b)) (q:=eG c.E a) (lT (eo (sM b).d (sE a).d) (by decide))
   have m3:=IB (p:=eG c.E a) (q:=eG c.E b) (lT (eo (sE a).d (sE b).d) (by decide))
   have e:scA c.F j - sG c.F a - sG c.F b=(((65536 - sG c.F a - sG c.F b).toNat:Nat):Int) - ((GQ - (scA c.F j).toNat:Nat):Int):=by unfold GQ;omega
   have hfl:=Aez (z:=z a*z b) e
   have hsc:z a*z b*2 ^ (65536 - sG c.F a - sG c.F b).toNat*2 ^ GQ=z a*uN (sG c.F a)*(z b*uN (sG c.F b)):=by
    unfold uN
    rw [ai (z a*z b),←ao,show z a*2 ^ (GQ - (sG c.F a).toNat)*(z b*2 ^ (GQ - (sG c.F b).toNat))=z a*z b*(2 ^ (GQ - (sG c.F a).toNat)*2 ^ (GQ - (sG c.F b).toNat)) by simp only [ai,Int.mul_left_comm],←ao]
    congr 2
    unfold GQ
    omega
   have n0:=C0.nr
   have n1:=C1.nr
   unfold Nr at n0 n1
   have v0:vIn v (rG c.R a):=C0.vin
   have v1:vIn w (rG c.R b):=C1.vin
   unfold vIn at v0 v1
   have g0:gv (Gb (rG c.R a))=_:=(Nj (WE A.ok.sR a)).2
   have g1:gv (Gb (rG c.R b))=_:=(Nj (WE A.ok.sR b)).2
   have f1:=AhD (a:=gv v) (A:=gv (Gb (rG c.R a))) (b:=z b*uN (sG c.F b) - gv w) (B:=gv (eG c.E b)) (by omega) (by omega) n1.1 n1.2
   have f2:=AhD (a:=gv w) (A:=gv (Gb (rG c.R b))) (b:=z a*uN (sG c.F a) - gv v) (B:=gv (eG c.E a)) (by omega) (by omega) n0.1 n0.2
   have f3:=AhD (a:=z a*uN (sG c.F a) - gv v) (A:=gv (eG c.E a)) (b:=z b*uN (sG c.F b) - gv w) (B:=gv (eG c.E b)) n0.1 n0.2 n1.1 n1.2
   have key:∀ x X y Y:Int,x*y - X*Y=X*(y - Y)+Y*(x - X)+(x - X)*(y - Y):=fun x X y Y=>by
    simp only [Int.mul_sub,ej,bz Y x,bz Y X]
    omega
   have hk:=key (z a*uN (sG c.F a)) (gv v) (z b*uN (sG c.F b)) (gv w)
   rw [←hsc,←show gv (Cz v w)*2 ^ GQ=_ from m0,←ej] at hk
   rw [←show gv (Cz (Gb (rG c.R a)) (eG c.E b))*2 ^ GQ=_ from m1] at f1
   rw [←show gv (Cz (Gb (rG c.R b)) (eG c.E a))*2 ^ GQ=_ from m2] at f2
   rw [←show gv (Cz (eG c.E a) (eG c.E b))*2 ^ GQ=_ from m3] at f3
   have hs3:(gv (Cz (Gb (rG c.R a)) (eG c.E b))+gv (Cz (Gb (rG c.R b)) (eG c.E a))+gv (Cz (eG c.E a) (eG c.E b)))*2 ^ GQ=gv (Cz (Gb (rG c.R a)) (eG c.E b))*2 ^ GQ+gv (Cz (Gb (rG c.R b)) (eG c.E a))*2 ^ GQ+gv (Cz (eG c.E a) (eG c.E b))*2 ^ GQ:=by rw [ic,ic]
   have d2:=Gd (x:=z a*z b*2 ^ (65536 - sG c.F a - sG c.F b).toNat - gv (Cz v w)) (y:=gv (Cz (Gb (rG c.R a)) (eG c.E b))+gv (Cz (Gb (rG c.R b)) (eG c.E a))+gv (Cz (eG c.E a) (eG c.E b))) (by rw [hs3,hk];omega)
   have d3:=Gd (x := -(gv (Cz (Gb (rG c.R a)) (eG c.E b))+gv (Cz (Gb (rG c.R b)) (eG c.E a))+gv (Cz (eG c.E a) (eG c.E b)))) (y:=z a*z b*2 ^ (65536 - sG c.F a - sG c.F b).toNat - gv (Cz v w)) (by rw [ct,hs3,hk];omega)
   have hn:Nr (uN (scA c.F j)) (shE (z a*z b) (scA c.F j - sG c.F a - sG c.F b)) (gv (FL y (Dv V y))) (gv (AU ps c.F c.R c.E y (scA c.F j))):=by
    rw [hbg,hB]
    unfold Nr
    by_cases hk:scA c.F j - sG c.F a - sG c.F b<0
    ·rw [decide_eq_true hk,Aqv s0 s1]
     unfold uN
     omega
    ·rw [decide_eq_false hk,Aqw]
     have ex:shE (z a*z b) (scA c.F j - sG c.F a - sG c.F b)*2 ^ (GQ - (scA c.F j).toNat)=z a*z b*2 ^ (65536 - sG c.F a - sG c.F b).toNat:=by
      unfold shE
      rw [if_neg hk,ai,←ao]
      congr 2
      omega
     unfold uN
     omega
   have C:=put hn
   exact fin (hpre.trans (AeE ⟨C.z0,by have:=C.z1;omega⟩)) (by omega) C
  have g0:(mvP c.F c.E (scA c.F j) a).2≤GQ:=(Hd s0 s1 A.ok.sE a).le
  have g1:(mvP c.F c.E (scA c.F j) b).2≤GQ:=(Hd s0 s1 A.ok.sE b).le
  unfold Nr at M0 M1
  have hU:0<uN (scA c.F j):=Cf _
  rcases (show y.kind=3∨y.kind=4∨y.kind=8∨y.kind=9 by omega) with q|q|q|q
  ·refine fin (m:=scl (z a) (scA c.F j - sG c.F a)+scl (z b) (scA c.F j - sG c.F b)) (by unfold Fi;simp [q,Aa,Ab]) k11 (put ?_)
   rw [show FL y (Dv V y)=Ee v w by unfold FL;simp [q,L0,L1],show AU ps c.F c.R c.E y (scA c.F j)=Ee (mvP c.F c.E (scA c.F j) a) (mvP c.F c.E (scA c.F j) b) by unfold AU;simp [q,Aa,Ab],show gv (Ee v w)=_ from DN S0.le S1.le,show gv (Ee (mvP c.F c.E (scA c.F j) a) (mvP c.F c.E (scA c.F j) b))=_ from DN g0 g1]
   unfold Nr
   rw [ic]
   omega
  ·refine fin (m:=scl (z a) (scA c.F j - sG c.F a) - scl (z b) (scA c.F j - sG c.F b)) (by unfold Fi;simp [q,Aa,Ab]) k11 (put ?_)
   rw [show FL y (Dv V y)=Ee v (Vk w) by unfold FL;simp [q,L0,L1],show AU ps c.F c.R c.E y (scA c.F j)=Ee (mvP c.F c.E (scA c.F j) a) (mvP c.F c.E (scA c.F j) b) by unfold AU;simp [q,Aa,Ab],show gv (Ee v (Vk w))=_ from DN S0.le S1.le,show gv (Vk w)=_ from Mf _,show gv (Ee (mvP c.F c.E (scA c.F j) a) (mvP c.F c.E (scA c.F j) b))=_ from DN g0 g1]
   unfold Nr
   rw [ej]
   omega
  ·refine fin (m:=min (scl (z a) (scA c.F j - sG c.F a)) (scl (z b) (scA c.F j - sG c.F b))) (by unfold Fi;simp [q,Aa,Ab]) k11 (put ?_)
   rw [show FL y (Dv V y)=NH v w by unfold FL;simp [q,L0,L1],show AU ps c.F c.R c.E y (scA c.F j)=Ga (mvP c.F c.E (scA c.F j) a) (mvP c.F c.E (scA c.F j) b) by unfold AU;simp [q,Aa,Ab],show gv (NH v w)=_ from FD S0.le S1.le,show gv (Ga (mvP c.F c.E (scA c.F j) a) (mvP c.F c.E (scA c.F j) b))=_ from DP g0 g1]
   unfold Nr
   rw [AeA hU]
   omega
  ·refine fin (m:=max (scl (z a) (scA c.F j - sG c.F a)) (scl (z b) (scA c.F j - sG c.F b))) (by unfold Fi;simp [q,Aa,Ab]) k11 (put ?_)
   rw [show FL y (Dv V y)=Ga v w by unfold FL;simp [q,L0,L1],show AU ps c.F c.R c.E y (scA c.F j)=Ga (mvP c.F c.E (scA c.F j) a) (mvP c.F c.E (scA c.F j) b) by unfold AU;simp [q,Aa,Ab],show gv (Ga v w)=_ from DP S0.le S1.le,show gv (Ga (mvP c.F c.E (scA c.F j) a) (mvP c.F c.E (scA c.F j) b))=_ from DP g0 g1]
   unfold Nr
   rw [WM hU]
   omega
 have g0:(mvP c.F c.E (scA c.F j) a).2≤GQ:=(Hd s0 s1 A.ok.sE a).le
 have hU:0<uN (scA c.F j):=Cf _
 by_cases k11:y.kind=11
 ·have sv:=hsv (by omega)
  have su:=hsu k11
  have hrw:(inK (scA c.F j - sG c.F (Bt y))=true∧rwB y.vn y.ve (scA c.F j)=true)∧rwB y.un y.ue (scA c.F j)=true:=by
   unfold Qo at hsh
   rw [if_neg k0,if_neg k1,if_neg k6,if_neg (by omega),if_neg k2,if_pos k11,ah,ah] at hsh
   exact hsh
  have RV:=(ME s0 s1 hrw.1.2).1
  have RU:=(ME s0 s1 hrw.2).1
  have slo:=EF (Fg y.vn y.ve (scA c.F j))
  have shi:=EF (Fg y.un y.ue (scA c.F j))
  have hpre:Fi ps c.F inn y (scA c.F j) z=max (scl (z a) (scA c.F j - sG c.F a)) (Dq y.vn y.ve (scA c.F j)):=by unfold Fi;simp [k11,Aa]
  have hB:FL y (Dv V y)=NH (Ga v (Ac y.vn 0 y.ve)) (Ac y.un 0 y.ue):=by unfold FL;simp [k11,L0]
  have hbe:AU ps c.F c.R c.E y (scA c.F j)=Ga (mvP c.F c.E (scA c.F j) a) (ixP (!BN y.vn y.ve (scA c.F j) || !BN y.un y.ue (scA c.F j)) (scA c.F j)):=by unfold AU;simp [k11,Aa]
  have gm:gv (Ga v (Ac y.vn 0 y.ve))=_:=DP S0.le (Fc sv).le
  have sx:(Ga v (Ac y.vn 0 y.ve)).2≤GQ:=(Sm.max S0 (Fc sv)).le
  have ge:gv (FL y (Dv V y))=min (max (gv v) (gv (Ac y.vn 0 y.ve))) (gv (Ac y.un 0 y.ue)):=by rw [hB,show gv (NH (Ga v (Ac y.vn 0 y.ve)) (Ac y.un 0 y.ue))=_ from FD sx (Fc su).le,gm]
  have gb:gv (AU ps c.F c.R c.E y (scA c.F j))=max (gv (mvP c.F c.E (scA c.F j) a)) (gv (ixP (!BN y.vn y.ve (scA c.F j) || !BN y.un y.ue (scA c.F j)) (scA c.F j))):=by rw [hbe];exact DP g0 (NY s0 s1).le
  have ixb:∀ b1 b2:Bool,gv (ixP b1 (scA c.F j))≤gv (ixP (b1 || b2) (scA c.F j))∧gv (ixP b2 (scA c.F j))≤gv (ixP (b1 || b2) (scA c.F j)):=fun b1 b2=>by
   cases b1 <;> cases b2 <;> simp only [Bool.or_false,Bool.or_true,Aqv s0 s1,Aqw] <;> omega
  have hix:=ixb (!BN y.vn y.ve (scA c.F j)) (!BN y.un y.ue (scA c.F j))
  have hcell:Ge ps c.F inn y (scA c.F j) z=min (max (scl (z a) (scA c.F j - sG c.F a)) (Dq y.vn y.ve (scA c.F j))) (Dq y.un y.ue (scA c.F j)):=by unfold Ge;rw [if_pos k11,hpre]
  rw [hcell,hpre]
  constructor
  ·refine put ?_
   rw [ge,gb]
   unfold Nr at M0 RV RU ⊢
   rw [AeA hU,WM hU]
   omega
  ·have hf2:IL (Ee (rG c.R (Bt y)).2 (eG c.E (Bt y))) (scA c.F j)=true:=by
    unfold Ahq at hf
    have:=(Bool.and_eq_true_iff.1 hf).2
    rw [decide_eq_true k11] at this
    simpa using this
   rw [Aa,YE (Sm.sum (WE A.ok.sR a).s2 (NX A.ok.sE a) (by decide)) (by decide) s0 s1,decide_eq_true_eq,show gv (Ee (rG c.R a).2 (eG c.E a))=_ from DN (WE A.ok.sR a).s2.le (NX A.ok.sE a).le] at hf2
   have e1:(2:Int) ^ GQ=uN (scA c.F j)*2 ^ (scA c.F j).toNat:=by
    unfold uN
    rw [←ao]
    congr 1
    unfold GQ
    omega
   rw [e1,←ai] at hf2
   have h2:gv (rG c.R a).2+gv (eG c.E a)≤2147483647*uN (scA c.F j):=gi hf2 (Cf _)
   have hn:=C0.nr
   have hvn:vIn v (rG c.R a):=C0.vin
   unfold Nr at hn
   unfold vIn at hvn
   have hfl:=YO (z:=z a) (k:=scA c.F j - sG c.F a) (a:=GQ - (scA c.F j).toNat) (b:=GQ - (sG c.F a).toNat) (by unfold GQ;omega) (.inr ⟨by have:=C0.z0;omega,by have:=C0.z1;omega⟩)
   have h3:scl (z a) (scA c.F j - sG c.F a)*uN (scA c.F j)≤2147483647*uN (scA c.F j):=by
    have hn2:z a*uN (sG c.F a) - gv v≤gv (eG c.E a):=hn.2
    unfold uN at *
    omega
   have h4:=gi h3 hU
   exact decide_eq_true (by omega)
 unfold Nr at M0
 rcases (show y.kind=5∨y.kind=10 by omega) with q|q
 ·refine fin (m := -scl (z a) (scA c.F j - sG c.F a)) (by unfold Fi;simp [q,Aa]) k11 (put ?_)
  rw [show FL y (Dv V y)=Vk v by unfold FL;simp [q,L0],show AU ps c.F c.R c.E y (scA c.F j)=mvP c.F c.E (scA c.F j) a by unfold AU;simp [q,Aa],show gv (Vk v)=_ from Mf _]
  unfold Nr
  rw [ct]
  omega
 ·refine fin (m:=max (scl (z a) (scA c.F j - sG c.F a)) (-scl (z a) (scA c.F j - sG c.F a))) (by unfold Fi;simp [q,Aa]) k11 (put ?_)
  rw [show FL y (Dv V y)=IG v by unfold FL;simp [q,L0],show AU ps c.F c.R c.E y (scA c.F j)=mvP c.F c.E (scA c.F j) a by unfold AU;simp [q,Aa],show gv (IG v)=_ from ND _]
  unfold Nr
  rw [WM hU,ct]
  omega
end
theorem Qh:∀ {l:List Int},(∀ x∈l,x=0)→Ah l=0
 | [],_=>rfl
 | x::l,h=>by
  unfold Ah
  rw [if_pos (h x (ii ..))]
  exact Qh fun y hy=>h y (ij _ hy)
section
variable {ps:List Prt} {bs:List Bk} {os inn cs:List Int} {st:List (Int × Nat)}
theorem AhE (he:Bl ps bs os=0) {j:Nat} {y:Bk} (hy:bs[j]?=some y) (hk:y.kind=2):∃ a:Int,y.args[0]?=some a∧0≤a∧a<bs.length∧AlB bs j=a.toNat∧Bt (PF bs j)=a:=by
 have hac:=Cl he hy
 have hck:=hac.2.1
 have hl:y.args.length=1:=by rw [hk] at hck;simp [AO] at hck;omega
 obtain ⟨a,ha⟩:∃ a,y.args[0]?=some a:=⟨_,gE (by omega)⟩
 have h1:=hac.2.2 a (gM ha)
 rw [show Cn ps.length bs.length y.kind=bs.length from if_neg (by omega)] at h1
 exact ⟨a,ha,h1.1,h1.2,by unfold AlB;rw [hy,bu,ci,ha];rfl,by rw [Di hy];unfold Bt;rw [ha];rfl⟩
end
section
variable {ps:List Prt} {bs:List Bk} {os:List Int} {c:Ct}
theorem Amv (A:He ps bs os c):GX ps bs c.F=0:=by
 have h1:c.F.length=bs.length:=A.ok.lF
 have h2:c.F.all GW=true:=List.all_eq_true.2 fun z hz=>by
  obtain ⟨j,hj⟩:=dt hz
  have hjl:=(gS.1 hj).1
  obtain ⟨y,hy⟩:∃ y,bs[j]?=some y:=⟨_,gE (by omega)⟩
  obtain ⟨_,_,_,_,s0,s1⟩:=A.parts hy
  have e:scA c.F j=z:=by unfold scA;rw [hj];rfl
  rw [e] at s0 s1
  exact decide_eq_true ⟨s0,s1⟩
 have h3:Ah ((List.range bs.length).map (IC bs c.F))=0:=Qh fun x hx=>by
  obtain ⟨j,hj,rfl⟩:=List.mem_map.1 hx
  obtain ⟨y,hy⟩:∃ y,bs[j]?=some y:=⟨_,gE (List.mem_range.1 hj)⟩
  have hk:=Ck hy
  have hsh:=UZ A hy
  unfold IC Qy AgC
  rw [hk,Di hy]
  unfold Qo rwB at hsh
  by_cases q1:y.kind=1
  ·rw [if_pos (.inl q1)]
   rw [if_neg (by omega),if_pos q1] at hsh
   exact of_decide_eq_true hsh
  by_cases q2:y.kind=2
  ·rw [if_pos (.inr q2)]
   rw [if_neg (by omega),if_neg q1,if_neg (by omega),if_neg (by omega),if_pos q2,ah] at hsh
   exact of_decide_eq_true hsh.2
  rw [if_neg (by omega)]
  by_cases q3:y.kind=11
  ·rw [if_pos q3]
   rw [if_neg (by omega),if_neg q1,if_neg (by omega),if_neg (by omega),if_neg q2,if_pos q3,ah,ah] at hsh
   rw [if_pos (of_decide_eq_true hsh.1.2)]
   exact of_decide_eq_true hsh.2
  ·rw [if_neg q3]
 have ok:∀ {a b:Int},inK a=true→inK b=true→decide (-62≤a∧a≤30 ∧ -62≤b∧b≤30)=true:=fun h1 h2=>by
  have h1:=of_decide_eq_true h1
  have h2:=of_decide_eq_true h2
  exact decide_eq_true ⟨h1.1,h1.2,h2.1,h2.2⟩
 have z:inK 0=true:=by decide
 have h4:(Cg ps bs c.F).all AgE=true:=List.all_eq_true.2 fun x hx=>by
  unfold Cg at hx
  rcases List.mem_append.1 hx with hx|hx
  ·rcases List.mem_append.1 hx with hx|hx
   ·obtain ⟨j,hj,hx⟩:=List.mem_flatMap.1 hx
    obtain ⟨hjl,hjk⟩:=Ig hj
    obtain ⟨y,hy⟩:∃ y,bs[j]?=some y:=⟨_,gE hjl⟩
    have hsh:=UZ A hy
    have k2:y.kind≠2:=by rw [←Ck hy];exact hjk
    have hac:=Cl A.he hy
    have hck:=hac.2.1
    have hcg:=hac.1
    unfold Fb at hx
    rw [Di hy] at hx
    dsimp only at hx
    unfold Qo at hsh
    by_cases k0:y.kind=0
    ·rw [if_pos k0] at hx hsh
     obtain rfl:=List.mem_singleton.1 hx
     exact ok hsh z
    rw [if_neg k0] at hx hsh
    by_cases k1:y.kind=1
    ·rw [if_pos k1] at hx
     obtain rfl:=List.mem_singleton.1 hx
     exact ok z z
    rw [if_neg k1] at hx hsh
    by_cases k6:y.kind=6
    ·rw [if_pos k6] at hx hsh
     obtain rfl:=List.mem_singleton.1 hx
     exact ok hsh z
    rw [if_neg k6] at hx hsh
    by_cases k7:y.kind=7
    ·rw [if_pos k7] at hx hsh
     obtain rfl:=List.mem_singleton.1 hx
     exact ok hsh z
    rw [if_neg k7] at hx hsh
    rw [if_neg k2] at hsh
    by_cases k11:y.kind=11
    ·rw [if_pos k11] at hx hsh
     rw [ah,ah] at hsh
     simp only [bo,bp,or_false] at hx
     rcases hx with rfl|rfl
     ·exact ok hsh.1.1 z
     ·exact ok z z
    rw [if_neg k11] at hx hsh
    have hl1:1≤y.args.length:=by unfold AO at hck hcg;(repeat' split at hck) <;> omega
    have hall:=List.all_eq_true.1 hsh
    have m0:Bt y∈y.args:=by
     obtain ⟨a,ha⟩:∃ a,y.args[0]?=some a:=⟨_,gE (by omega)⟩
     unfold Bt
     rw [ha]
     exact gM ha
    by_cases hl2:y.args.length=2
    ·rw [if_pos hl2] at hx
     have m1:FP y∈y.args:=by
      obtain ⟨a,ha⟩:∃ a,y.args[1]?=some a:=⟨_,gE (by omega)⟩
      unfold FP
      rw [ha]
      exact gM ha
     obtain rfl:=List.mem_singleton.1 hx
     exact ok (hall _ m0) (hall _ m1)
    ·rw [if_neg hl2] at hx
     obtain rfl:=List.mem_singleton.1 hx
     exact ok (hall _ m0) z
   ·obtain ⟨j,hj,rfl⟩:=List.mem_map.1 hx
    obtain ⟨hjl,hjk⟩:=Lu.1 hj
    obtain ⟨y,hy⟩:∃ y,bs[j]?=some y:=⟨_,gE hjl⟩
    have hsh:=UZ A hy
    have k2:y.kind=2:=by rw [←Ck hy];exact hjk
    unfold Qo at hsh
    rw [if_neg (by omega),if_neg (by omega),if_neg (by omega),if_neg (by omega),if_pos k2,ah] at hsh
    have h5:=hsh.1
    rw [←Di hy] at h5
    exact ok h5 z
  ·obtain ⟨j,hj,rfl⟩:=List.mem_map.1 hx
   exact ok z z
 unfold GX
 rw [if_neg (not_not_intro h1),if_neg (not_not_intro h2),if_neg (not_not_intro h3),if_pos h4]
structure Aqx (bs:List Bk) (c:Ct) (cs:List Int) (st:List Pq):Prop where
 cok:Ajb bs c.F cs
 sok:AmZ bs st
 dl:∀ k j:Nat,(Bx bs)[k]?=some j→∃ (z:Int) (v:Pq),cs[j]?=some z∧st[k]?=some v∧Gf c j z v
theorem AeG (A:He ps bs os c) {j:Nat} {y:Bk} (hy:bs[j]?=some y) (k2:y.kind=2):Df y.vn y.ve∧rwB y.vn y.ve (scA c.F j)=true ∧
  (∀ v,gv v=gv (Ac y.vn 0 y.ve)→vIn v (c.R[j]?.getD iZ))∧(∀ v,vIn v (rG c.R (Bt y))→vIn v (c.R[j]?.getD iZ)) ∧
  gv (AU ps c.F c.R c.E y (scA c.F j))=max (gv (mvP c.F c.E (scA c.F j) (Bt y))) (gv (ixP (!BN y.vn y.ve (scA c.F j)) (scA c.F j))):=by
 obtain ⟨_,_,_,_,s0,s1⟩:=A.parts hy
 have hsh:=UZ A hy
 unfold Qo at hsh
 rw [if_neg (by omega),if_neg (by omega),if_neg (by omega),if_neg (by omega),if_pos k2,ah] at hsh
 have hsc:=(ME s0 s1 hsh.2).2
 have sv:=(Fc hsc).more (n':=LB) (d':=LB) (by decide) (by decide)
 have hri:IK ps c.R y=Uv (Ac y.vn 0 y.ve,Ac y.vn 0 y.ve) (rG c.R (Bt y)):=by unfold IK;rw [if_pos k2]
 have ip:=IwS.pt sv
 have ir:=WE A.ok.sR (Bt y)
 obtain ⟨g1,g2⟩:=AlX ip ir
 have hin:∀ v,(min (gv (Ac y.vn 0 y.ve)) (gv (rG c.R (Bt y)).1)≤gv v∧gv v≤max (gv (Ac y.vn 0 y.ve)) (gv (rG c.R (Bt y)).2))→vIn v (c.R[j]?.getD iZ):=fun v hv =>
  A.rng hy hri ((ip.hull ir).more (by decide) (by decide)) ⟨by rw [g1];exact hv.1,by rw [g2];exact hv.2⟩
 refine ⟨hsc,hsh.2,fun v hv=>hin v ?_,fun v hv=>hin v ?_,?_⟩
 ·rw [hv];omega
 ·have h1:=hv.1
  have h2:=hv.2
  omega
 ·rw [show AU ps c.F c.R c.E y (scA c.F j)=Ga (mvP c.F c.E (scA c.F j) (Bt y)) (ixP (!BN y.vn y.ve (scA c.F j)) (scA c.F j)) by unfold AU;simp [k2]]
  exact DP (Hd (F:=c.F) s0 s1 A.ok.sE (Bt y)).le (NY s0 s1).le
theorem Aav (A:He ps bs os c):Aqx bs c (Cv bs c.F) (IH bs):=⟨Ajb.init _ _,Yj A.he,fun k j hj=>by
 obtain ⟨hjl,hjk⟩:=NI hj
 obtain ⟨y,hy⟩:∃ y,bs[j]?=some y:=⟨_,gE hjl⟩
 have k2:y.kind=2:=by rw [←Ck hy];exact hjk
 obtain ⟨_,_,_,_,s0,s1⟩:=A.parts hy
 obtain ⟨hsc,hrw,hv,_,hb⟩:=AeG A hy k2
 refine ⟨Dq y.vn y.ve (scA c.F j),Ac y.vn 0 y.ve,?_,Yl hj hy,A.cell_of hy (hv _ rfl) (WQ (ME s0 s1 hrw).1 (by rw [hb];omega))⟩
 unfold Cv
 rw [kp,de (by rw [Fa];exact hjl),GU hjl,if_pos hjk]
 unfold Ed
 rw [if_pos (.inr (.inl hjk))]
 unfold Mj
 rw [Di hy]⟩
end
section
variable {ps:List Prt} {bs:List Bk} {os inn cs:List Int} {st:List Pq} {c:Ct}
theorem AeH (A:He ps bs os c) (S:Aqx bs c cs st) (hi:Ut ps inn=true) (hil:inn.length=ps.length) (ht:Lp ps bs st inn=0) :
  (stL ps bs c.F inn cs).2=false∧∀ (a:Int),0≤a→a<bs.length→∃ v,(Qn ps bs st inn)[a.toNat]?=some v∧Gf c a.toNat (zC bs cs (stL ps bs c.F inn cs).1 a) v:=by
 have hC:=S.cok
 have hsl:=S.sok.len
 have hsn:=S.sok.nf
 have hc:=Amv A
 have hV:=Adm A.he hsl hsn ht
 have del:∀ a:Int,0≤a→a<bs.length→AG bs a.toNat=2→∃ v,(Qn ps bs st inn)[a.toNat]?=some v∧Gf c a.toNat (zC bs cs (stL ps bs c.F inn cs).1 a) v:=fun a a0 a1 h2=>by
  obtain ⟨k,hk⟩:=dt (Lu.2 ⟨by omega,h2⟩)
  obtain ⟨z,v,hz,hst,hcell⟩:=S.dl k _ hk
  refine ⟨v,by rw [Adl hsl hk,hst],?_⟩
  unfold zC AaI
  rw [if_pos h2,hz]
  exact hcell
 have key:∀ k,k≤(BH bs).length→(stK ps bs c.F inn cs k).2=false∧∀ i∈(BH bs).take k,∃v,(Qn ps bs st inn)[i]?=some v∧Gf c i (zC bs cs (stL ps bs c.F inn cs).1 (i:Int)) v:=by
  intro k
  induction k with
  | zero=>exact fun _=>⟨rfl,fun i hi=>by simp at hi⟩
  | succ k ih =>
   intro hk
   obtain ⟨hfl,ih⟩:=ih (by omega)
   obtain ⟨j,hj⟩:∃ j,(BH bs)[k]?=some j:=⟨_,gE (by omega)⟩
   obtain ⟨hjl,hjk⟩:=Ig (gM hj)
   obtain ⟨y,hy⟩:∃ y,bs[j]?=some y:=⟨_,gE hjl⟩
   have hyk:=Ck hy
   have hk2:y.kind≠2:=by rw [←hyk];exact hjk
   obtain ⟨b1,b2⟩:=Ams (inn:=inn) A.he hc hC (by omega) hj hy
   have hsplit:BH bs=(BH bs).take k++j::(BH bs).drop (k+1):=by
    exact Ajc
   obtain ⟨hcell,hsh⟩:=A.cell hy hk2 (inn:=inn) hi hil (z:=zC bs cs (stL ps bs c.F inn cs).1) hV fun k0 a ha=>by
    have h1:=(Cl A.he hy).2.2 a ha
    rw [show Cn ps.length bs.length y.kind=bs.length from if_neg k0] at h1
    have hpr:GD bs j=y.args:=by unfold GD QY;rw [hyk,if_neg k0,hy];rfl
    by_cases h2:AG bs a.toNat=2
    ·exact del a h1.1 h1.2 h2
    ·have:=ih a.toNat ((Om hsplit (a:=a) (by rw [hpr];exact ha)).resolve_left h2)
     rwa [show ((a.toNat:Nat):Int)=a by omega] at this
   obtain ⟨b3,b4⟩:=b2 hsh
   refine ⟨by rw [b1,hfl,hsh];rfl,fun i hi2=>?_⟩
   rw [aw,hj,fe,eh,ik] at hi2
   rcases hi2 with hi2|rfl
   ·exact ih i hi2
   have hmem:i∈(BH bs).take (k+1):=by rw [aw,hj];simp
   have he:zC bs cs (stL ps bs c.F inn cs).1 (i:Int)=Ge ps c.F inn y (scA c.F i) (zC bs cs (stL ps bs c.F inn cs).1):=by
    conv=>lhs;unfold zC AaI
    rw [am,if_neg hjk,YQ (show k+1≤(BH bs).length by omega) hmem,b3]
    rfl
   exact ⟨_,Adk A.he hsl hsn ht hy hk2,by rw [he];exact hcell⟩
 obtain ⟨k1,k2⟩:=key _ (aa _)
 refine ⟨k1,fun a a0 a1=>?_⟩
 by_cases h2:AG bs a.toNat=2
 ·exact del a a0 a1 h2
 ·have:=k2 a.toNat (by rw [ay];exact VU (LS A.he).2.2 (by omega) h2)
  rwa [show ((a.toNat:Nat):Int)=a by omega] at this
theorem AeI (A:He ps bs os c) (S:Aqx bs c cs st) (hi:Ut ps inn=true) (hil:inn.length=ps.length) (ht:Lp ps bs st inn=0) :
  (Gk inn (Cg ps bs c.F) cs).2=false∧Aqx bs c (Gk inn (Cg ps bs c.F) cs).1 (Fk ps bs st inn) ∧
  ∀ (o:Nat) (y:Bk),bs[o]?=some y→∃ (z:Int) (v:Pq),(if y.kind=2 then cs[o]? else (Gk inn (Cg ps bs c.F) cs).1[o]?)=some z∧(Qn ps bs st inn)[o]?=some v∧Gf c o z v:=by
 obtain ⟨r1,r2,r3,r4⟩:=Amt (inn:=inn) A.he (Amv A) S.cok
 obtain ⟨hfl,hv⟩:=AeH A S hi hil ht
 have hzr:=fun (a:Int)=>SR (a:=a) S.cok (V:=(stL ps bs c.F inn cs).1) (Qf _) (Hh S.cok.short _)
 have dl:∀ (j:Nat) (y:Bk),bs[j]?=some y→y.kind=2→∃ v,(Qn ps bs st inn)[AlB bs j]?=some v∧Gf c j (nxC bs c.F cs (stL ps bs c.F inn cs).1 j) v:=fun j y hy hk=>by
  obtain ⟨a,ha0,a0,a1,hz,ha⟩:=AhE A.he hy hk
  obtain ⟨v,hva,C⟩:=hv a a0 a1
  obtain ⟨_,_,_,_,s0,s1⟩:=A.parts hy
  obtain ⟨_,_,_,hr,hb⟩:=AeG A hy hk
  have Aa:Bt y=a:=by rw [←Di hy];exact ha
  rw [Aa] at hr hb
  have hg:=(AeF A hy (by omega) a (gM ha0)).2.2
  refine ⟨v,by rw [hz];exact hva,?_⟩
  unfold nxC
  rw [ha]
  exact A.cell_of hy (hr v C.vin) (WQ (WP (F:=c.F) s0 s1 hg.1 hg.2 A.ok.sE C.z0 C.z1 C.nr) (by rw [hb];omega))
 have hov:(Gk inn (Cg ps bs c.F) cs).2=false:=r1.2 ⟨hfl,fun j hj=>by
  obtain ⟨hjl,hjk⟩:=Lu.1 hj
  obtain ⟨y,hy⟩:∃ y,bs[j]?=some y:=⟨_,gE hjl⟩
  obtain ⟨v,_,C⟩:=dl j y hy (by rw [←Ck hy];exact hjk)
  exact decide_eq_true ⟨C.z0,by have:=C.z1;omega⟩⟩
 refine ⟨hov,⟨r4,AlP A.he S.sok.len S.sok.nf ht,fun k j hj=>?_⟩,fun o y hy=>?_⟩
 ·obtain ⟨hjl,hjk⟩:=NI hj
  obtain ⟨y,hy⟩:∃ y,bs[j]?=some y:=⟨_,gE hjl⟩
  obtain ⟨v,h1,C⟩:=dl j y hy (by rw [←Ck hy];exact hjk)
  exact ⟨_,v,r3 hov j (gM hj),by rw [Adn hj,h1];rfl,C⟩
 ·have hol:=(gS.1 hy).1
  obtain ⟨v,h1,C⟩:=hv (o:Int) (by omega) (by omega)
  obtain ⟨hb,_,_⟩:=hzr (o:Int) (by omega) (by omega)
  rw [am] at h1 C hb
  refine ⟨_,v,?_,h1,C⟩
  unfold AaI at hb
  by_cases hk:y.kind=2
  ·rw [if_pos hk]
   rwa [if_pos (by rw [Ck hy];exact hk)] at hb
  ·have hok:AG bs o≠2:=by rw [Ck hy];exact hk
   rw [if_neg hk]
   rw [if_neg hok] at hb
   exact (r2 o hol hok).trans hb
end
section
variable {P:Program}
def Ajf (P:Program) (g:FuncId) (vs:List Value) (p:Int→Bool) (zs:List Int) (w:World):Prop:=∀ w',Below w.heap.size w w'→∀ z∈zs,Calls P g (Value.int .i64 z::vs).toArray w' fun e w2=>e=.returned (.bool (p z))∧Below w'.heap.size w' w2
theorem fn_G {vs:List Value} {p:Int→Bool}:∀ w w',Below w.heap.size w w'→Ajf P g vs p zs w→Ajf P g vs p zs w':=fun _ _ hb h w2 hb2=>h w2 (hb.trans (hb2.mono hb.size))
variable {o:Oper} {F:Frm} {H:List Ob}
theorem RB {vs : List Value} {p : Int → Bool} {r x : Operand} {ts : Array TypeId} (hf : P.funcs[g]? = some fn) (hz : z ∈ zs) (hn : (fn.name == "runtime.NumGoroutine") = false := by kernel_rfl) (hb : fn.body = some c := by with_unfolding_all exact rfl)
  (ho:o.op=.call { callee:=.value r,args:=#[x],argTypes:=ts }:=by with_unfolding_all exact rfl) (hr:F.ev r=.one (.d (.val (.func (.func g) #[] vs.toArray))):=by with_unfolding_all exact rfl) (hx:F.ev x=.one (.d (.val (.int .i64 z))):=by with_unfolding_all exact rfl) :
  Bb P (Ajf P g vs p zs) o F H (.one (.d (.val (.bool (p z))))) []:=by
 intro b0 m a hp hcx hg hb0 _ hor K Q hK
 have er:=Dm (m:=m) (v:=a.eval r) (by rw [←hr];exact Bg hor (by rw [ho];simp [Op.operands,Call.operands]))
 have ex:=Dm (m:=m) (v:=a.eval x) (by rw [←hx];exact Bg hor (by rw [ho];simp [Op.operands,Call.operands]))
 unfold Oper.wp execOp
 simp only [ho,resolve,er,Deferred.ofValue,aj,bg,av,invoke]
 rw [Dz hf hn hb]
 rw [gd]
 have he:((#[]:Array Value)++#[x].map a.eval++vs.toArray)=(Value.int .i64 z::vs).toArray:=fh (by simp [ex])
 rw [he]
 refine (hg m.w (ab _ _) z hz).mono fun e w' ⟨hev,hbel⟩=>?_
 subst hev
 exact hK _ w' [] ⟨rfl,hbel,fun k e hk=>by simp at hk,List.Pairwise.nil⟩ (Bh.val rfl)
theorem AhF {f:FuncId} {x y:Operand} {ts:Array TypeId} {t:Bool} {p:Int→Bool} {rs:List (Nat × Nat × Option Nat)} {cargs:List A} {b:Bool} {Gt:World→Prop} (hG:∀ w w',Below w.heap.size w w'→Gt w→Gt w') (hf:P.funcs[f]?=some fn) (h:∀ vs,CV P (Ajf P g vs p zs) f [.one (Ba t zs),.one (.val (.func (.func g) #[] vs.toArray))] [aB b]) (hC:∀ z∈zs,CV P Gt g (aI z::cargs) [aB (p z)])
  (hn : (fn.name == "runtime.NumGoroutine") = false := by kernel_rfl) (hb : fn.body = some c := by with_unfolding_all exact rfl)
  (ho:o.op=.call { callee:=.value (.func f),args:=#[x,y],argTypes:=ts }:=by with_unfolding_all exact rfl) (hx:F.ev x=.one (.d (Ba t zs)):=by with_unfolding_all exact rfl) (hy:F.ev y=.one (.clo (.func g) rs):=by with_unfolding_all exact rfl)
  (hcl:AV (fun (p:Nat × Nat × Option Nat) y=>Ik true H (.one (.ref p.1 p.2.1 p.2.2)) y) rs cargs:=by with_unfolding_all first|((repeat' first|exact CF rfl rfl|refine BG rfl rfl ?_ ?_|exact Ur rfl) <;> fail)|fail):Bb P Gt o F H (.one (.d (.val (.bool b)))) []:=by
 intro b0 m a hp hcx hg hb0 _ hor K Q hK
 rw [az] at hp
 have h1:=Bg (F:=F) hor (x:=x) (by rw [ho];simp [Op.operands,Call.operands])
 have h2:=Bg (F:=F) hor (x:=y) (by rw [ho];simp [Op.operands,Call.operands])
 rw [hx] at h1
 rw [hy] at h2
 obtain ⟨vs,hve,hvl⟩:=h2
 let Sx:Du:=fun t b=>m.S t b∨(t=true∧∃ id e,m.E id=some e∧e.own=some b)
 have hlt:∀ t b,Sx t b→b<m.w.heap.size:=fun t b hb=>by
  rcases hb with hb|⟨_,id,e,he,hown⟩
  ·exact hcx.lt t b hb
  ·exact (Et.lt (hcx.each id e he).1 hown).2
 have hc':AV (Em m.w Sx) cargs vs:=⟨hcl.1.symm.trans hvl.1,fun j y v hy hv=>by
   obtain ⟨p,hpj⟩:∃ p,rs[j]?=some p:=⟨_,gE (by have:=(gS.1 hv).1;have:=hvl.1;omega)⟩
   exact Ik.rel (x:=.one (.ref p.1 p.2.1 p.2.2)) hcx (fun b hb=>.inl hb) (fun _ b hb=>.inl hb) (fun id e g he hg=>.inr ⟨rfl,id,e,he,hg⟩) ((hcl.2 j p y hpj hy).pre hp) (hvl.2 j p v hpj hv)⟩
 have hfn:Ajf P g vs p zs m.w:=fun w' hb' z hz =>
  (hC z hz w' Sx (Value.int .i64 z::vs) (hG _ _ hb' hg) (fun t b hb=>al (hlt t b hb) hb'.size) (.cons_ (Bh.val rfl) (hc'.imp fun _ _=>Em.mono (fun _ _ h=>h) fun t b hb=>hb'.block b (hlt t b hb)))).mono fun e w2 ⟨v,he,hr,hbl⟩=>by
   have h4:Bh w2 _ (dB (p z)) v:=hr
   cases h4
   exact ⟨he,hbl⟩
 have hcalls:=h vs m.w Sx [a.eval x,.func (.func g) #[] vs.toArray] hfn hlt (.cons_ (Bh.mono (fun t b hb=>.inl hb) (fun _ _ _=>rfl) h1) (.cons_ (Bh.val rfl) .nil_))
 unfold Oper.wp execOp
 simp only [ho,resolve,Act.eval,Deferred.ofValue,aj,bg,av,invoke]
 rw [Dz hf hn hb]
 rw [gd]
 have he:((#[]:Array Value)++#[x,y].map a.eval++#[])=[a.eval x,.func (.func g) #[] vs.toArray].toArray:=fh (by simp [hve])
 rw [he]
 refine hcalls.mono fun e w' ⟨v,hev,hr,hbel⟩=>?_
 subst hev
 have h4:Bh w' _ (dB b) v:=hr
 cases h4
 exact hK _ w' [] ⟨rfl,hbel,fun k e hk=>by simp at hk,List.Pairwise.nil⟩ (Bh.val rfl)
end
def AhG (p:Int→Bool):List Int→Nat→Int
 | [],_ => -1
 | z::l,k=>if p z=true then (k:Int) else AhG p l (k+1)
theorem SW {p:Int→Bool} {zs:List Int}:∀ {k:Nat},(∀ z∈zs.take k,p z=false)→k≤zs.length→AhG p zs 0=AhG p (zs.drop k) k
 | 0,_,_=>rfl
 | k+1,h,hk=>by
  obtain ⟨z,hz⟩:∃ z,zs[k]?=some z:=⟨_,gE (by omega)⟩
  rw [SW (k:=k) (fun z hz=>h z (by rw [aw];exact List.mem_append_left _ hz)) (by omega),du (by omega)]
  have he:zs[k]=z:=by obtain ⟨h1,h2⟩:=gS.1 hz;exact h2
  rw [he]
  have:=h z (by rw [aw,hz];simp)
  show (if p z=true then (k:Int) else AhG p (zs.drop (k+1)) (k+1))=_
  rw [this]
  rfl
theorem AeJ {p:Int→Bool}:∀ (zs:List Int) (k:Nat),decide (0≤AhG p zs k)=zs.any p
 | [],_=>rfl
 | z::l,k=>by
  unfold AhG
  rw [List.any_cons]
  cases h:p z with
  | true=>simp
  | false=>simpa using AeJ l (k+1)
theorem AhH (hf : prog.funcs[g]? = some fn) (hn : (fn.name == "runtime.NumGoroutine") = false) (hbd : fn.body = some c) (t : Bool) (vs : List Value) (p : Int → Bool) (zs : List Int) (hl : zs.length ≤ 1000000) : CV prog (Ajf prog g vs p zs) 253 [.one (Ba t zs), .one (.val (.func (.func g) #[] vs.toArray))] [aI (AhG p zs 0)] := by
 refine Akc fn_G func253 rfl ntmps253 (bf rfl) ?_
 repeat' (with_reducible first|refine qq ?_|(refine Tx 0 ?_;refine gO xA ?_)|(refine Tx 1 ?_;refine gO xM <| gO xN <| gO xM ?_))
 refine Bi (BE 0) (Aq (fun n Fr H=>∃ k:Nat,k≤zs.length∧n=zs.length - k∧(∀ z∈zs.take k,p z=false)∧Fr=ofL [(0,vd (Ba t zs)),(1,vd (.val (.func (.func g) #[] vs.toArray))),(7,vi zs.length),(8,vi ((k:Nat)))]∧H=[]) (n0:=zs.length) ⟨0,ad _,rfl,(fun z hz=>by simp at hz),rfl,rfl⟩ ?_)
 rintro n Fr H ⟨k,hk,rfl,hall,rfl,rfl⟩
 by_cases hlt:k<zs.length
 case pos =>
  obtain ⟨z,hz⟩:∃ z,zs[k]?=some z:=⟨_,gE hlt⟩
  have hzm:=gM hz
  have hsk:=SW hall hk
  rw [du hlt,(gS.1 hz).2,show AhG p (z::zs.drop (k+1)) k=if p z=true then (k:Int) else AhG p (zs.drop (k+1)) (k+1) from rfl] at hsk
  cases hp:p z
  case true =>
   rw [hp,if_pos rfl] at hsk
   repeat' (with_reducible first|refine qq ?_|(refine Tx 2 ?_;refine gO xLt ?_)|(refine Tx 3 ?_;refine gO xM <| gO xA ?_)|(refine Tx 4 ?_;refine gO xM <| gO xM <| gO xM <| gO (xIr Af (AF hz)) <| gO xD <| gO (by exact (hp ▸ RB (p:=p) hf hzm hn hbd)) ?_)|(refine Tx 5 ?_;refine gO xM <| gO xA ?_))
   exact Ax rfl (.cons_ (QX rfl hsk.symm) .nil_)
  rw [hp,if_neg (by decide)] at hsk
  repeat' (with_reducible first|refine qq ?_|(refine Tx 2 ?_;refine gO xLt ?_)|(refine Tx 3 ?_;refine gO xM <| gO xA ?_)|(refine Tx 4 ?_;refine gO xM <| gO xM <| gO xM <| gO (xIr Af (AF hz)) <| gO xD <| gO (by exact (hp ▸ RB (p:=p) hf hzm hn hbd)) ?_)|(refine Tx 6 ?_;refine gO xAd <| gO xM ?_))
  refine ⟨_,_,BE 0,_,by omega,k+1,by omega,rfl,PM hall hz hp,rfl,rfl⟩
 obtain rfl:k=zs.length:=by omega
 have hsk:=SW hall hk
 rw [jp] at hsk
 repeat' (with_reducible first|refine qq ?_|(refine Tx 2 ?_;refine gO xLt ?_)|(refine Tx 7 ?_;refine gO xA ?_))
 exact Ax rfl (.cons_ (QX rfl hsk.symm) .nil_)
theorem WR (hf : prog.funcs[g]? = some fn) (hn : (fn.name == "runtime.NumGoroutine") = false) (hbd : fn.body = some c) (t : Bool) (vs : List Value) (p : Int → Bool) (zs : List Int) (hl : zs.length ≤ 1000000) : CV prog (Ajf prog g vs p zs) 213 [.one (Ba t zs), .one (.val (.func (.func g) #[] vs.toArray))] [aB (zs.any p)] := by
 refine Akc fn_G func213 rfl ntmps213 (bf rfl) ?_
 have IX:=AhH hf hn hbd t vs p zs hl
 rw [←AeJ zs 0]
 repeat' (with_reducible first|refine qq ?_|(refine Tx 0 ?_;refine gO xA ?_)|(refine Tx 1 ?_;refine gO xM <| gO xM <| gO (xCl func253 (IX)) <| gO xGe <| gO xA ?_))
 exact Ax rfl (.cons_ (DJ rfl rfl) .nil_)
section
variable {P:Program} {G:World→Prop} {o:Oper} {F:Frm} {H:List Ob}
theorem Aqy {f:FuncId} (ho:o.op=.assign (.func f)):Bb P G o F H (.one (.clo (.func f) [])) []:=Cc fun b0 m a _ _ hor=>by
 refine ⟨.func (.func f) #[] #[],?_,[],rfl,AV.nil_⟩
 unfold execOp
 simp [ho,Act.eval]
end
theorem Vl {R:List Iq} {k:Nat} (h:k<R.length):R[k]?=some (R[k]?.getD iZ):=by rw [gE h];rfl
theorem eg_c {k:Nat} (h:k<E.length):E[k]?=some (E[k]?.getD (0,0)):=by rw [gE h];rfl
theorem WS {k:Nat} (h:k<F.length):F[k]?=some (scA F k):=by unfold scA;rw [gE h];rfl
structure Ana (ps:List Prt) (n:Nat) (y:Bk):Prop where
 hk:y.kind=0∨y.kind=1∨y.kind=2∨y.kind=3∨y.kind=4∨y.kind=5∨y.kind=6∨y.kind=7∨y.kind=8∨y.kind=9∨y.kind=10∨y.kind=11
 a0:y.kind≠1→∃ a:Nat,y.args[0]?=some (a:Int)∧Bt y=(a:Int)∧(y.kind≠0→a<n)
 a1:(y.kind=3∨y.kind=4∨y.kind=7∨y.kind=8∨y.kind=9)→∃ a:Nat,y.args[1]?=some (a:Int)∧FP y=(a:Int)∧a<n
 all:y.kind≠0→∀ a∈y.args,0≤a∧a<(n:Int)
 len:y.args.length≤2
 port:y.kind=0→∃ (i:Nat) (p:Prt),y.args[0]?=some (i:Int)∧Bt y=(i:Int)∧ps[i]?=some p∧Wy p
 sv:(y.kind=1∨y.kind=2∨y.kind=6∨y.kind=11)→Df y.vn y.ve
 su:y.kind=11→Df y.un y.ue
 cl:y.kind=11→ZI (Ac y.vn 0 y.ve) (Ac y.un 0 y.ue)≤0
theorem Asq (he:Bl ps bs os=0) {i:Nat} {y:Bk} (hy:bs[i]?=some y):Ana ps bs.length y:=by
 have hac:=Cl he hy
 have hcg:=hac.1
 have hck:=hac.2.1
 have hlen:y.args.length≤2:=by unfold AO at hcg hck;(repeat' split at hck) <;> omega
 refine ⟨Ow he hy,fun h1=>?_,fun h2=>?_,fun h0 a ha=>?_,hlen,fun h0=>?_,fun h=>?_,fun h=>(Ms he hy h).2.1,fun h=>(Ms he hy h).2.2⟩
 ·have hl:1≤y.args.length:=by unfold AO at hcg hck;(repeat' split at hck) <;> omega
  obtain ⟨a,ha⟩:∃ a,y.args[0]?=some a:=⟨_,gE (by omega)⟩
  have hb:=hac.2.2 a (gM ha)
  refine ⟨a.toNat,by rw [ha];congr 1;omega,by unfold Bt;rw [ha];show a=_;omega,fun h0=>?_⟩
  rw [show Cn ps.length bs.length y.kind=bs.length from if_neg h0] at hb
  omega
 ·have hl:2≤y.args.length:=by unfold AO at hcg hck;(repeat' split at hck) <;> omega
  obtain ⟨a,ha⟩:∃ a,y.args[1]?=some a:=⟨_,gE (by omega)⟩
  have hb:=hac.2.2 a (gM ha)
  rw [show Cn ps.length bs.length y.kind=bs.length from if_neg (by omega)] at hb
  exact ⟨a.toNat,by rw [ha];congr 1;omega,by unfold FP;rw [ha];show a=_;omega,by omega⟩
 ·have hb:=hac.2.2 a ha
  rwa [show Cn ps.length bs.length y.kind=bs.length from if_neg h0] at hb
 ·have hl:y.args.length=1:=by rw [h0] at hck;simp [AO] at hck;omega
  obtain ⟨a,ha⟩:∃ a,y.args[0]?=some a:=⟨_,gE (by omega)⟩
  have hb:=hac.2.2 a (gM ha)
  rw [show Cn ps.length bs.length y.kind=ps.length from if_pos h0] at hb
  obtain ⟨p,hp⟩:∃ p,ps[a.toNat]?=some p:=⟨_,gE (by omega)⟩
  exact ⟨a.toNat,p,by rw [ha];congr 1;omega,by unfold Bt;rw [ha];show a=_;omega,hp,UJ he hp⟩
 ·exact Mn he hy (by unfold Pt;rcases h with h|h|h|h <;> rw [h] <;> rfl)
theorem AeK {p:Prt} (h:ps[i]?=some p):FE ps (i:Int)=p.fr:=by unfold FE;rw [am,h];rfl
theorem Va (s:Int) (s0:0≤s) (s1:s≤62):CV prog An 218 [aI s] [aDy false (pw (-s)).1 (pw (-s)).2]:=by
 refine cvz func218 ntmps218 ?_
 have OF:=Lm 1 (by decide) (by decide)
 have SH:=BR 1 0 (-s) ⟨by decide,fun h=>absurd rfl h⟩ (lT (AY (k:=2) (by decide)) (by decide)) (by omega)
 repeat' (with_reducible first|refine qq ?_|(refine Tx 0 ?_;refine gN (xAl Av) ?_)|(refine Tx 1 ?_;refine gO (xCl func68 (OF)) <| gO xM <| gO Aar <| gO (xCl func21 (SH)) <| gZ (xSk Ae) ?_))
 exact Ax rfl (.cons_ (rvW Ae rfl) .nil_)
theorem Gv (n e:Int) (hs:Df n e):CV prog An 219 [.agg [dI n,dI e]] [aDy false (Ac n 0 e).1 (Ac n 0 e).2]:=by
 refine cvz func219 ntmps219 ?_
 have VA:=XV n e
 rw [if_pos hs,if_pos hs] at VA
 repeat' (with_reducible first|refine qq ?_|(refine Tx 0 ?_;refine gN xBo <| gN (xAl Av) ?_)|(refine Tx 1 ?_;refine gO xL <| gO (xCl func20 (VA)) <| gO xMt <| gO (by exact Nz rfl rfl rfl) <| gO xEx <| gN (xAl Av) <| gZ (xSk Ae) <| gO xA ?_)|(refine Tx 2 ?_;refine gO xL <| gZ (xSk Ae) ?_))
 exact Ax rfl (.cons_ (rvW Ae rfl) .nil_)
theorem Ajg (k:p') (h:Hd9 p'→p:=by with_reducible first|(intro Z9;refine qq ?_;exact Z9.o)|(intro Z9;refine Tx 0 ?_;refine gN xBo <| gO xA ?_;exact Z9.o)|(intro Z9;refine Tx 1 ?_;refine gO xL <| gO (xCl func219 (RV)) <| gO xM <| gO (xCl func21 (SH)) <| gN (xAl Av) <| gZ (xSk Ae) ?_;exact Z9.o)|(intro Z9;refine Tx 2 ?_;refine gO xF <| gO xD <| gO xEq <| gO xA ?_;exact Z9.o)|fail):p:=h ⟨k⟩
theorem Ih (n e f:Int) (hs:Df n e) (f0:0≤f) (f1:f≤30):CV prog An 222 [.agg [dI n,dI e],aI f] [aB (BN n e f)]:=by
 refine cvz func222 ntmps222 ?_
 have RV:=Gv n e hs
 have sm:=Fc hs
 have SH:=BR (Ac n 0 e).1 (Ac n 0 e).2 f sm.ok sm.lz (by have:=sm.ok.1;omega)
 obtain ⟨q,hq⟩:∃ q,Ac (Ac n 0 e).1 (Ac n 0 e).2 f=q:=⟨_,rfl⟩
 rw [hq] at SH
 rw [show BN n e f=decide (q.2=0) by unfold BN;rw [←hq]]
 by_cases h0:q.2=0
 case pos =>
  repeat' (with_reducible first|refine Ajg ?_)
  exact Ax rfl (.cons_ (DJ rfl ((decide_eq_true h0).symm)) .nil_)
 repeat' (with_reducible first|refine Ajg ?_)
 exact Ax rfl (.cons_ (DJ rfl ((decide_eq_false h0).symm)) .nil_)
theorem AeL (k:p') (h:Hd9 p'→p:=by with_reducible first|(intro Z9;refine qq ?_;exact Z9.o)|(intro Z9;refine Tx 0 ?_;refine gO xA ?_;exact Z9.o)|(intro Z9;refine Tx 1 ?_;refine gO xM <| gO xGe <| gO xM ?_;(first|iterate 2 refine Jd ?_|(refine Jy xM1 ?_;refine Jy xLe ?_));refine gO xPk <| gO xA ?_;exact Z9.o)|fail):p:=h ⟨k⟩
theorem Nt (k:Int):CV prog An 215 [aI k] [aB (inK k)]:=by
 refine cvz func215 ntmps215 ?_
 by_cases cf7:k < -62
 case pos =>
  repeat' (with_reducible first|refine AeL ?_)
  exact Ax rfl (.cons_ (DJ rfl ((decide_eq_false (by omega)).symm)) .nil_)
 by_cases cf6:30<k
 case pos =>
  repeat' (with_reducible first|refine AeL ?_)
  exact Ax rfl (.cons_ (DJ rfl ((decide_eq_false (by omega)).symm)) .nil_)
 repeat' (with_reducible first|refine AeL ?_)
 exact Ax rfl (.cons_ (DJ rfl ((decide_eq_true (by omega)).symm)) .nil_)
theorem Oy (n e f:Int):CV prog An 216 [.agg [dI n,dI e],.one (.ptr true [dI f])] [aB (rwB n e f)]:=by
 refine cvz func216 ntmps216 ?_
 have RA:=(UK n e f).cv
 unfold rwB
 by_cases h0:BJ n e f=0
 case pos =>
  rw [h0] at RA
  repeat' (with_reducible first|refine qq ?_|(refine Tx 0 ?_;refine gN xBo <| gO xA ?_)|(refine Tx 1 ?_;refine gO xL <| gO xD <| gO (xCl func117 (RA)) <| gO xMt <| gO xEx <| gO xEx <| gO xA <| gO xA ?_)|(refine Tx 2 ?_;refine gO xM <| gO (by first|exact Eo rfl Ap rfl (TP rfl)|exact Eo rfl Ap rfl (TP (by first|rfl|omega))|exact Eo rfl Ap rfl (VJ (by first|assumption|omega))|exact Eo rfl Ap rfl rfl) <| gO xA ?_))
  exact Ax rfl (.cons_ (DJ rfl ((decide_eq_true h0).symm)) .nil_)
 repeat' (with_reducible first|refine qq ?_|(refine Tx 0 ?_;refine gN xBo <| gO xA ?_)|(refine Tx 1 ?_;refine gO xL <| gO xD <| gO (xCl func117 (RA)) <| gO xMt <| gO xEx <| gO xEx <| gO xA <| gO xA ?_)|(refine Tx 2 ?_;refine gO xM <| gO (by first|exact Eo rfl Ap rfl (VJ h0)|exact Eo rfl Ap rfl (TP (by first|rfl|omega))|exact Eo rfl Ap rfl (VJ (by first|assumption|omega))|exact Eo rfl Ap rfl rfl) <| gO xA ?_))
 exact Ax rfl (.cons_ (DJ rfl ((decide_eq_false h0).symm)) .nil_)
theorem AeM (k:p') (h:Hd9 p'→p:=by with_reducible first|(intro Z9;refine qq ?_;exact Z9.o)|(intro Z9;refine Tx 0 ?_;refine gO xA ?_;exact Z9.o)|(intro Z9;refine Tx 1 ?_;refine gO xF <| gO xD <| gO xM <| gO (xIr Af (AF hF)) <| gO xD <| gO xLt <| gO xM ?_;(first|iterate 6 refine Jd ?_|(refine Jy (xFa Od Bd) ?_;refine Jy (xLd Bd) ?_;refine Jy xM1 ?_;refine Jy (xIr Af (AF hF)) ?_;refine Jy (xLd Ak) ?_;refine Jy xGt ?_));refine gO xPk <| gO xA ?_;exact Z9.o)|fail):p:=h ⟨k⟩
theorem AhI (u:Bool) (c:Ct) (a:Int) {k:Nat} (a0:0≤a) (hk:k=a.toNat) (h:k<c.F.length) (hl:c.F.length≤1000000):CV prog An 214 [aI a,.one (.ptr true (dCt u c))] [aB (!frB (scA c.F a.toNat))]:=by
 refine cvz func214 ntmps214 ?_
 have hF:=WS h
 obtain rfl:k=a.toNat:=hk
 have ha:((a.toNat:Nat):Int)=a:=by omega
 rw [←ha]
 rw [am]
 generalize a.toNat=j at *
 unfold frB
 generalize scA c.F j=z at *
 by_cases c5:z<0
 case pos =>
  repeat' (with_reducible first|refine AeM ?_)
  exact Ax rfl (.cons_ (DJ rfl (by rw [decide_eq_false (by omega)];rfl)) .nil_)
 by_cases c6:30<z
 case pos =>
  repeat' (with_reducible first|refine AeM ?_)
  exact Ax rfl (.cons_ (DJ rfl (by rw [decide_eq_false (by omega)];rfl)) .nil_)
 repeat' (with_reducible first|refine AeM ?_)
 exact Ax rfl (.cons_ (DJ rfl (by rw [decide_eq_true (by omega)];rfl)) .nil_)
theorem Gg (k:p') (h:Hd9 p'→p:=by with_reducible first|(intro Z9;refine Tx 0 ?_;refine gN xBo <| gN xBo <| gO xA ?_;exact Z9.o)|(intro Z9;refine Tx 2 ?_;refine gO xD <| gO xLt <| gO xM ?_;(first|iterate 2 refine Jd ?_|(refine Jy (xLd Ak) ?_;refine Jy xGt ?_));refine gO xPk ?_;exact Z9.o)|fail):p:=h ⟨k⟩
theorem Amw (h:p:=by first|exact xS1 Ak|exact xSk Ak):p:=h
theorem RD (k:p') (h:Hd9 p'→p:=by with_reducible first|(intro Z9;refine Tx 1 ?_;refine gO xF <| gO xD <| gO xM <| gO (xIr Af (AF hFi)) <| gO xD <| gN (xAl Bz) <| gZ Amw ?_;exact Z9.o)|fail):p:=h ⟨k⟩
theorem Hi (k:p') (h:Hd9 p'→p:=by with_reducible first|(intro Z9;refine Tx 4 ?_;refine gO xF <| gO xD <| gO xM <| gO (xIr Aj (DK hy)) <| gO xL <| gN (xAl Bw) <| gZ (xSk Bm) ?_;exact Z9.o)|fail):p:=h ⟨k⟩
theorem IP (k:p') (h:Hd9 p'→p:=by with_reducible first|(intro Z9;refine Tx 7 ?_;refine gO (by first|exact Aqy rfl|exact Xv rfl rfl) ?_;exact Z9.o)|(intro Z9;refine Tx 8 ?_;refine gO (by first|exact xMf [(2,0,none)]|exact CU rfl (by repeat' first|exact CF rfl rfl|refine BG rfl rfl rfl ?_)) <| gO xA ?_;exact Z9.o)|(intro Z9;refine Tx 9 ?_;refine gO xF <| gO xD ?_;exact Z9.o)|(intro Z9;refine Tx 10 ?_;refine gO xEq <| gO xA ?_;exact Z9.o)|fail):p:=h ⟨k⟩
theorem IQ (k:p') (h:Hd9 p'→p:=by with_reducible first|(intro Z9;refine Tx 5 ?_;refine gO xF <| gO xD <| gO xNe <| gO xM ?_;(first|iterate 4 refine Jd ?_|(refine Jy (xFa EQ Bd) ?_;refine Jy (xLd Bd) ?_;refine Jy (by first|exact xMf [(1,0,none)]|exact CU rfl (by repeat' first|exact CF rfl rfl|refine BG rfl rfl rfl ?_)) ?_;refine Jy (by exact AhF Uf func213 CTN HC) ?_));refine gO xPk ?_;exact Z9.o)|fail):p:=h ⟨k⟩
theorem AhJ (h:p:=by first|exact xIr Af (AF hFi)|exact xIr Af (AF hF0)):p:=h
theorem RE (k:p') (h:Hd9 p'→p:=by with_reducible first|(intro Z9;refine Tx 1 ?_;refine gO xF <| gO xD <| gO xM <| gO AhJ <| gO xD <| gN (xAl Bz) <| gZ Amw ?_;exact Z9.o)|fail):p:=h ⟨k⟩
theorem Ajh (k:p') (h:Hd9 p'→p:=by with_reducible first|(intro Z9;refine BX (id:=19) AX (by kernel_rfl) ?_;refine gP xM <| gP xD <| gP xF <| gP xD <| gP xF <| gP xD <| gP (xIr Af (AF hA0)) <| gP xD <| gP AhJ <| gP xD <| gP xSb <| gP (xCc func215 SHC (args:=[_]) rfl) <| gP xM ?_;(first|iterate 4 refine Kd ?_|(refine Ky xM1 ?_;refine Ky (xFa ER Be) ?_;refine Ky (xLa Be) ?_;refine Ky (xCc func216 (Oy y.vn y.ve s) (args:=[_]) rfl) ?_));refine gP xPk <| gP xA ?_;refine Ke ?_;exact Z9.o)|fail):p:=h ⟨k⟩
theorem AeN (k:p') (h:Hd9 p'→p:=by with_reducible first|(intro Z9;refine BX (id:=21) AX (by kernel_rfl) ?_;refine gP xM <| gP xD <| gP xF <| gP xD <| gP xF <| gP xD <| gP (xIr Af (AF hA0)) <| gP xD <| gP AhJ <| gP xD <| gP xSb <| gP (xCc func215 SHC (args:=[_]) rfl) <| gP xM ?_;(first|iterate 4 refine Kd ?_|(refine Ky xM1 ?_;refine Ky (xFa ER Be) ?_;refine Ky (xLa Be) ?_;refine Ky (xCc func216 RWC (args:=[_]) rfl) ?_));refine gP xPk <| gP xM ?_;(first|iterate 4 refine Kd ?_|(refine Ky xM1 ?_;refine Ky (xFa ES Be) ?_;refine Ky (xLa Be) ?_;refine Ky (xCc func216 (Oy y.un y.ue s) (args:=[_]) rfl) ?_));refine gP xPk <| gP xA ?_;refine Ke ?_;exact Z9.o)|fail):p:=h ⟨k⟩
theorem Aqz (h:p:=by first|exact xIr Af (AF hz)|exact xIr Af (AF hFm)):p:=h
theorem Aji (k:p') (h:Hd9 p'→p:=by with_reducible first|(intro Z9;refine Tx 24 ?_;refine gO Aqz <| gO xD <| gO xA ?_;exact Z9.o)|(intro Z9;refine BX (id:=25) AX (by kernel_rfl) ?_;refine gP xM <| gP xD <| gP xF <| gP xD <| gP xM <| gP Aqz <| gP xD <| gP xSb <| gP (xCc func215 SHC (args:=[_]) rfl) <| gP Aar ?_;refine Ke ?_;exact Z9.o)|fail):p:=h ⟨k⟩
theorem DH (h:p:=by
 exact Ax rfl (.cons_ (DJ rfl (rfl)) .nil_)):p:=h
theorem Amx (h:p:=by first|exact xIr Af (AF hFi)|exact xIr Af (AF hF0)|exact xIr Af (AF hF1)):p:=h
theorem WT (t u:Bool) {ps:List Prt} {bs:List Bk} (os:List Int) (c:Ct) (i:Nat) {y:Bk} (hy:bs[i]?=some y) (B:Ana ps bs.length y) (hF:c.F.length=bs.length) (hn:bs.length≤1000000) (hpn:ps.length≤1000000):CV prog An 125 [aDg t ps bs os,.agg (dCt u c),aI (i:Int)] [aB (DG ps c.F y i)]:=by
 refine cvz func125 ntmps125 ?_
 have hil:=(gS.1 hy).1
 have hFi:=WS (F:=c.F) (k:=i) (by omega)
 obtain ⟨s,hs⟩:∃ s,scA c.F i=s:=⟨_,rfl⟩
 rw [hs] at hFi
 have hBl:=B.len
 by_cases c5:s<0
 case pos =>
  have hb:DG ps c.F y i=false:=by unfold DG;rw [hs,show frB s=false from decide_eq_false (by omega)];rfl
  rw [hb]
  repeat' (with_reducible first|refine qq ?_|refine Gg ?_|refine RD ?_|(refine Tx 3 ?_;refine gO xA ?_))
  exact DH
 by_cases c6:30<s
 case pos =>
  have hb:DG ps c.F y i=false:=by unfold DG;rw [hs,show frB s=false from decide_eq_false (by omega)];rfl
  rw [hb]
  repeat' (with_reducible first|refine qq ?_|refine Gg ?_|refine RD ?_|(refine Tx 3 ?_;refine gO xA ?_))
  exact DH
 have hfr:frB s=true:=decide_eq_true (by omega)
 by_cases k0:y.kind=0
 case pos =>
  obtain ⟨j,p,hA0,ha0,hp,P⟩:=B.port k0
  have f0:=P.f0
  have f1:=P.f1
  have hjl:=(gS.1 hp).1
  have hL0:=(gS.1 hA0).1
  have hb:DG ps c.F y i=inK (s - p.fr):=by unfold DG Qo;rw [hs,hfr,decide_eq_true k0,if_pos k0,ha0,AeK hp];rfl
  rw [hb]
  repeat' (with_reducible first|refine qq ?_|refine Gg ?_|refine RD ?_|refine Hi ?_|(refine Tx 5 ?_;refine gO xF <| gO xD <| gO xNe <| gO xM ?_;(first|iterate 3 refine Jd ?_|(refine Jy (xFa EQ Bd) ?_;refine Jy (xLd Bd) ?_;refine Jy (by exact CU rfl (by repeat' first|exact CF rfl rfl|refine BG rfl rfl rfl ?_)) ?_));refine Jd ?_;refine gO xPk ?_)|refine IP ?_|(refine BX (id:=11) AX (by kernel_rfl) ?_;refine gP xM <| gP xD <| gP xF <| gP xD <| gP xF <| gP xD <| gP (xIr Af (AF hA0)) <| gP xD <| gP (xIr Bv (Fy hp)) <| gP xF <| gP xD <| gP xSb <| gP (xCc func215 (Nt (s - p.fr)) (args:=[_]) rfl) <| gP xA ?_;refine Ke ?_))
  exact DH
 have HC:∀ a∈y.args,CV prog An 214 [aI a,.one (.ptr true (dCt u c))] [aB ((fun a:Int=>!frB (scA c.F a.toNat)) a)]:=fun a ha=>by have h1:=B.all k0 a ha;exact AhI u c a h1.1 rfl (by omega) (by omega)
 have CTN:∀ vs,CV prog (Ajf prog 214 vs (fun a:Int=>!frB (scA c.F a.toNat)) y.args) 213 [.one (Ba t y.args),.one (.val (.func (.func 214) #[] vs.toArray))] [aB (y.args.any (fun a:Int=>!frB (scA c.F a.toNat)))]:=fun vs=>WR func214 (by kernel_rfl) rfl t vs _ y.args (by omega)
 have hna:y.args.any (fun a:Int=>!frB (scA c.F a.toNat))=!y.args.all (fun a=>frB (sG c.F a)):=(List.not_all_eq_any_not ..).symm
 by_cases hall:y.args.all (fun a=>frB (sG c.F a))=true
 case neg =>
  rw [em] at hall
  rw [hall] at hna
  simp only [hna,fd] at CTN
  have hb:DG ps c.F y i=false:=by unfold DG;rw [hs,hfr,hall,decide_eq_false k0];rfl
  rw [hb]
  repeat' (with_reducible first|refine qq ?_|refine Gg ?_|refine RD ?_|refine Hi ?_|refine IQ ?_|(refine Tx 6 ?_;refine gO xA ?_))
  exact DH
 rw [hall] at hna
 simp only [hna,fb] at CTN
 have hb:DG ps c.F y i=Qo ps c.F y s:=by unfold DG;rw [hs,hfr,hall];simp
 rw [hb]
 have hall:∀ a∈y.args,0≤sG c.F a∧sG c.F a≤30:=fun a ha=>of_decide_eq_true (List.all_eq_true.1 hall a ha)
 clear hb hna
 by_cases k1:y.kind=1
 case pos =>
  rw [show Qo ps c.F y s=rwB y.vn y.ve s by unfold Qo;rw [if_neg k0,if_pos k1]]
  repeat' (with_reducible first|refine qq ?_|refine Gg ?_|refine RD ?_|refine Hi ?_|refine IQ ?_|refine IP ?_|(refine Tx 12 ?_;refine gO xEq <| gO xA ?_)|(refine Tx 13 ?_;refine gO xM <| gO xF <| gO xL <| gO (xCc func216 (Oy y.vn y.ve s) (args:=[_]) rfl) <| gO xA ?_))
  exact DH
 by_cases k6:y.kind=6
 case pos =>
  obtain ⟨a,hA0,ha0,hl0⟩:=B.a0 (by omega)
  have hL0:=(gS.1 hA0).1
  have hl0:=hl0 k0
  have hF0:=WS (F:=c.F) (k:=a) (by omega)
  have hr0:=hall a (gM hA0)
  obtain ⟨r0,hq0⟩:∃ r,scA c.F a=r:=⟨_,rfl⟩
  rw [show sG c.F ((a:Nat):Int)=r0 by unfold sG;rw [am];exact hq0] at hr0
  rw [hq0] at hF0
  have hg0:sG c.F (Bt y)=r0:=by rw [ha0];unfold sG;rw [am];exact hq0
  have hv:=B.sv (by omega)
  unfold Df at hv
  rw [show Qo ps c.F y s=inK (s - r0+y.ve) by unfold Qo;rw [if_neg k0,if_neg k1,if_pos k6,hg0]]
  repeat' (with_reducible first|refine qq ?_|refine Gg ?_|refine RE ?_|refine Hi ?_|refine IQ ?_|refine IP ?_|(refine Tx 12 ?_;refine gO xEq <| gO xA ?_)|(refine Tx 14 ?_;refine gO xEq <| gO xA ?_)|(refine BX (id:=15) AX (by kernel_rfl) ?_;refine gP xM <| gP xD <| gP xF <| gP xD <| gP xF <| gP xD <| gP (xIr Af (AF hA0)) <| gP xD <| gP AhJ <| gP xD <| gP xSb <| gP xF <| gP xF <| gP xD <| gP xAd <| gP (xCc func215 (Nt (s - r0+y.ve)) (args:=[_]) rfl) <| gP xA ?_;refine Ke ?_))
  exact DH
 by_cases k7:y.kind=7
 case pos =>
  obtain ⟨a,hA0,ha0,hl0⟩:=B.a0 (by omega)
  have hL0:=(gS.1 hA0).1
  have hl0:=hl0 k0
  have hF0:=WS (F:=c.F) (k:=a) (by omega)
  have hr0:=hall a (gM hA0)
  obtain ⟨r0,hq0⟩:∃ r,scA c.F a=r:=⟨_,rfl⟩
  rw [show sG c.F ((a:Nat):Int)=r0 by unfold sG;rw [am];exact hq0] at hr0
  rw [hq0] at hF0
  have hg0:sG c.F (Bt y)=r0:=by rw [ha0];unfold sG;rw [am];exact hq0
  obtain ⟨b,hA1,ha1,hl1⟩:=B.a1 (by omega)
  have hL1:=(gS.1 hA1).1
  have hF1:=WS (F:=c.F) (k:=b) (by omega)
  have hr1:=hall b (gM hA1)
  obtain ⟨r1,hq1⟩:∃ r,scA c.F b=r:=⟨_,rfl⟩
  rw [show sG c.F ((b:Nat):Int)=r1 by unfold sG;rw [am];exact hq1] at hr1
  rw [hq1] at hF1
  have hg1:sG c.F (FP y)=r1:=by rw [ha1];unfold sG;rw [am];exact hq1
  rw [show Qo ps c.F y s=inK (s - r0 - r1) by unfold Qo;rw [if_neg k0,if_neg k1,if_neg k6,if_pos k7,hg0,hg1]]
  repeat' (with_reducible first|refine qq ?_|refine Gg ?_|(refine Tx 1 ?_;refine gO xF <| gO xD <| gO xM <| gO Amx <| gO xD <| gN (xAl Bz) <| gZ Amw ?_)|refine Hi ?_|refine IQ ?_|refine IP ?_|(refine Tx 12 ?_;refine gO xEq <| gO xA ?_)|(refine Tx 14 ?_;refine gO xEq <| gO xA ?_)|(refine Tx 16 ?_;refine gO xEq <| gO xA ?_)|(refine BX (id:=17) AX (by kernel_rfl) ?_;refine gP xM <| gP xD <| gP xF <| gP xD <| gP xF <| gP xD <| gP (xIr Af (AF hA0)) <| gP xD <| gP Amx <| gP xD <| gP xSb <| gP xF <| gP xD <| gP xF <| gP xD <| gP (xIr Af (AF hA1)) <| gP xD <| gP Amx <| gP xD <| gP xSb <| gP (xCc func215 (Nt (s - r0 - r1)) (args:=[_]) rfl) <| gP xA ?_;refine Ke ?_))
  exact DH
 by_cases k2:y.kind=2
 case pos =>
  obtain ⟨a,hA0,ha0,hl0⟩:=B.a0 (by omega)
  have hL0:=(gS.1 hA0).1
  have hl0:=hl0 k0
  have hF0:=WS (F:=c.F) (k:=a) (by omega)
  have hr0:=hall a (gM hA0)
  obtain ⟨r0,hq0⟩:∃ r,scA c.F a=r:=⟨_,rfl⟩
  rw [show sG c.F ((a:Nat):Int)=r0 by unfold sG;rw [am];exact hq0] at hr0
  rw [hq0] at hF0
  have hg0:sG c.F (Bt y)=r0:=by rw [ha0];unfold sG;rw [am];exact hq0
  rw [show Qo ps c.F y s=(inK (s - r0) && rwB y.vn y.ve s) by unfold Qo;rw [if_neg k0,if_neg k1,if_neg k6,if_neg k7,if_pos k2,hg0]]
  have SHC:=Nt (s - r0)
  cases hq:inK (s - r0)
  case false =>
   rw [hq] at SHC
   repeat' (with_reducible first|refine qq ?_|refine Gg ?_|refine RE ?_|refine Hi ?_|refine IQ ?_|refine IP ?_|(refine Tx 12 ?_;refine gO xEq <| gO xA ?_)|(refine Tx 14 ?_;refine gO xEq <| gO xA ?_)|(refine Tx 16 ?_;refine gO xEq <| gO xA ?_)|(refine Tx 18 ?_;refine gO xEq <| gO xA ?_)|refine Ajh ?_)
   exact Ax rfl (.cons_ (DJ rfl (by rw [gh])) .nil_)
  case true =>
   rw [hq] at SHC
   repeat' (with_reducible first|refine qq ?_|refine Gg ?_|refine RE ?_|refine Hi ?_|refine IQ ?_|refine IP ?_|(refine Tx 12 ?_;refine gO xEq <| gO xA ?_)|(refine Tx 14 ?_;refine gO xEq <| gO xA ?_)|(refine Tx 16 ?_;refine gO xEq <| gO xA ?_)|(refine Tx 18 ?_;refine gO xEq <| gO xA ?_)|refine Ajh ?_)
   exact Ax rfl (.cons_ (DJ rfl (by rw [jh])) .nil_)
 by_cases k11:y.kind=11
 case pos =>
  obtain ⟨a,hA0,ha0,hl0⟩:=B.a0 (by omega)
  have hL0:=(gS.1 hA0).1
  have hl0:=hl0 k0
  have hF0:=WS (F:=c.F) (k:=a) (by omega)
  have hr0:=hall a (gM hA0)
  obtain ⟨r0,hq0⟩:∃ r,scA c.F a=r:=⟨_,rfl⟩
  rw [show sG c.F ((a:Nat):Int)=r0 by unfold sG;rw [am];exact hq0] at hr0
  rw [hq0] at hF0
  have hg0:sG c.F (Bt y)=r0:=by rw [ha0];unfold sG;rw [am];exact hq0
  rw [show Qo ps c.F y s=(inK (s - r0) && rwB y.vn y.ve s && rwB y.un y.ue s) by unfold Qo;rw [if_neg k0,if_neg k1,if_neg k6,if_neg k7,if_neg k2,if_pos k11,hg0]]
  have SHC:=Nt (s - r0)
  have RWC:=Oy y.vn y.ve s
  cases hq:inK (s - r0)
  case false =>
   rw [hq] at SHC
   repeat' (with_reducible first|refine qq ?_|refine Gg ?_|refine RE ?_|refine Hi ?_|refine IQ ?_|refine IP ?_|(refine Tx 12 ?_;refine gO xEq <| gO xA ?_)|(refine Tx 14 ?_;refine gO xEq <| gO xA ?_)|(refine Tx 16 ?_;refine gO xEq <| gO xA ?_)|(refine Tx 18 ?_;refine gO xEq <| gO xA ?_)|(refine Tx 20 ?_;refine gO xEq <| gO xA ?_)|refine AeN ?_)
   exact Ax rfl (.cons_ (DJ rfl (by rw [gh,gh])) .nil_)
  case true =>
   rw [hq] at SHC
   cases hq2:rwB y.vn y.ve s
   case false =>
    rw [hq2] at RWC
    repeat' (with_reducible first|refine qq ?_|refine Gg ?_|refine RE ?_|refine Hi ?_|refine IQ ?_|refine IP ?_|(refine Tx 12 ?_;refine gO xEq <| gO xA ?_)|(refine Tx 14 ?_;refine gO xEq <| gO xA ?_)|(refine Tx 16 ?_;refine gO xEq <| gO xA ?_)|(refine Tx 18 ?_;refine gO xEq <| gO xA ?_)|(refine Tx 20 ?_;refine gO xEq <| gO xA ?_)|refine AeN ?_)
    exact Ax rfl (.cons_ (DJ rfl (by rw [jh,gh])) .nil_)
   case true =>
    rw [hq2] at RWC
    repeat' (with_reducible first|refine qq ?_|refine Gg ?_|refine RE ?_|refine Hi ?_|refine IQ ?_|refine IP ?_|(refine Tx 12 ?_;refine gO xEq <| gO xA ?_)|(refine Tx 14 ?_;refine gO xEq <| gO xA ?_)|(refine Tx 16 ?_;refine gO xEq <| gO xA ?_)|(refine Tx 18 ?_;refine gO xEq <| gO xA ?_)|(refine Tx 20 ?_;refine gO xEq <| gO xA ?_)|refine AeN ?_)
    exact Ax rfl (.cons_ (DJ rfl (by rw [jh,jh])) .nil_)
 have hb:Qo ps c.F y s=y.args.all fun a=>inK (s - sG c.F a):=by unfold Qo;rw [if_neg k0,if_neg k1,if_neg k6,if_neg k7,if_neg k2,if_neg k11]
 rw [hb]
 repeat' (with_reducible first|refine qq ?_|refine Gg ?_|refine RD ?_|refine Hi ?_|refine IQ ?_|refine IP ?_|(refine Tx 12 ?_;refine gO xEq <| gO xA ?_)|(refine Tx 14 ?_;refine gO xEq <| gO xA ?_)|(refine Tx 16 ?_;refine gO xEq <| gO xA ?_)|(refine Tx 18 ?_;refine gO xEq <| gO xA ?_)|(refine Tx 20 ?_;refine gO xEq <| gO xA ?_)|(refine Tx 22 ?_;refine gO xF <| gO xD <| gO xN <| gO xM ?_))
 refine Bi (BE 3) (Aq (fun n Fr H=>∃ k:Nat,k≤y.args.length∧n=y.args.length - k∧(y.args.take k).all (fun a=>inK (s - sG c.F a))=true∧Fr=ofL [(4,vr 1),(7,vr 2),(9,.one (.clo (.func 215) [])),(150,vd (Ba t y.args)),(151,vi y.args.length),(152,vi ((k:Nat)))]∧H=[.box 26 [.d (Dh t ps),.d (DC t bs),.d (Ba t os)],.box 30 [.d (Ba u c.F),.d (.row false 6 c.R.length (AN (dIw false) c.R)),.d (.row false 3 c.E.length (AN dyP c.E))],.box 3 [.d (.val (.int .i64 s))]]) (n0:=y.args.length) ⟨0,ad _,rfl,rfl,rfl,rfl⟩ ?_)
 clear HC CTN
 rintro n Fr H ⟨k,hk,rfl,hal,rfl,rfl⟩
 by_cases hlt:k<y.args.length
 case pos =>
  obtain ⟨z,hz⟩:∃ z,y.args[k]?=some z:=⟨_,gE hlt⟩
  have hzm:=gM hz
  have hzb:=B.all k0 z hzm
  have hzr:=hall z hzm
  obtain ⟨m,rfl⟩:∃ m:Nat,z=(m:Int):=⟨z.toNat,by omega⟩
  have hFm:=WS (F:=c.F) (k:=m) (by omega)
  rw [show sG c.F ((m:Nat):Int)=scA c.F m by unfold sG;rw [am]] at hzr
  have SHC:=Nt (s - scA c.F m)
  cases hq:inK (s - scA c.F m)
  case false =>
   rw [hq] at SHC
   repeat' (with_reducible first|refine qq ?_|(refine Tx 23 ?_;refine gO xLt ?_)|refine Aji ?_|(refine Tx 26 ?_;refine gO xA ?_))
   exact Ax rfl (.cons_ (DJ rfl ((UO (p:=fun a=>inK (s - sG c.F a)) hz hq).symm)) .nil_)
  rw [hq] at SHC
  repeat' (with_reducible first|refine qq ?_|(refine Tx 23 ?_;refine gO xLt ?_)|refine Aji ?_|(refine Tx 27 ?_;refine gO xAd <| gO xM ?_))
  refine ⟨_,_,BE 3,_,by omega,k+1,by omega,rfl,Gr (p:=fun a=>inK (s - sG c.F a)) hz hal hq,rfl,rfl⟩
 obtain rfl:k=y.args.length:=by omega
 rw [ay] at hal
 repeat' (with_reducible first|refine qq ?_|(refine Tx 23 ?_;refine gO xLt ?_)|(refine Tx 28 ?_;refine gO xA ?_))
 exact Ax rfl (.cons_ (DJ rfl (hal.symm)) .nil_)
theorem Ajj {k:Nat} (h:k<E.length):((AN dyP E).drop (k*3)).take 3=dyP (E[k]?.getD (0,0)):=Um (eg_c h)
theorem Ajk {R:List Iq} {k:Nat} (h:k<R.length):((AN (dIw false) R).drop (k*6)).take 6=dIw false (R[k]?.getD iZ):=Ash (Vl h)
theorem YS (R:List Iq) (k:Nat):rG R (k:Int)=R[k]?.getD iZ:=by unfold rG;rw [am]
theorem RF (E:List Pq) (k:Nat):eG E (k:Int)=E[k]?.getD (0,0):=by unfold eG;rw [am]
theorem NK (F:List Int) (k:Nat):sG F (k:Int)=scA F k:=by unfold sG;rw [am]
theorem Cj (t u:Bool) (c:Ct) (y:Bk) (k:Nat) {r:Nat} (hk:y.args[k]?=some (r:Int)) (hr:r<c.R.length) (ha:y.args.length≤1000000) (hv:c.R.length≤1000000):CV prog An 217 [aI (k:Int),.one (.ptr true (dCt u c)),.one (.ptr true (dBk t y))] [aIw false (c.R[r]?.getD iZ)]:=by
 refine cvz func217 ntmps217 ?_
 have l1:=(gS.1 hk).1
 repeat' (with_reducible first|refine qq ?_|(refine Tx 0 ?_;refine gN (xAl AE) ?_)|(refine AJ (id:=1) 9 AX (by kernel_rfl) ?_;dsimp only [List.take,List.drop];refine gP xF <| gP xD <| gP xF <| gP xD <| gP xM <| gP (by first|exact xIr Af (AF hk)|exact xIr Af (Ajk hr)) <| gP xD <| gP (xIr Aw (Ajk hr)) <| gP xL ?_;refine Ke ?_;refine gZ (xSk Ag) ?_))
 exact Ax rfl (.cons_ (rvJ Ag rfl) .nil_)
theorem GA (k:p') (h:Hd9 p'→p:=by with_reducible first|(intro Z9;refine qq ?_;exact Z9.o)|(intro Z9;refine Tx 0 ?_;refine gN xBo <| gN xBo <| gO xA ?_;exact Z9.o)|(intro Z9;refine Tx 1 ?_;refine gO xF <| gO xD <| gO xM <| gO (by first|exact xIr Aj (DK hy)|exact xIr Aj (hwi)) <| gO xL <| gN (xAl Bw) <| gZ (xSk Bm) ?_;exact Z9.o)|(intro Z9;refine Tx 2 ?_;refine gO (by first|exact xMf [(1,0,none),(2,0,none)]|exact CU rfl (by repeat' first|exact CF rfl rfl|refine BG rfl rfl rfl ?_)) <| gO xA ?_;exact Z9.o)|(intro Z9;refine Tx 3 ?_;refine gN (xAl AE) ?_;exact Z9.o)|(intro Z9;refine Tx 4 ?_;refine gO xF <| gO xD ?_;exact Z9.o)|(intro Z9;refine Tx 6 ?_;refine gO xEq <| gO xA ?_;exact Z9.o)|(intro Z9;refine BX (id:=29) AX (by kernel_rfl) ?_;refine gP xL <| gP xF <| gP xD <| gP xM <| gP (xIr Aw (hwi)) <| gP xL <| gP (xCl func151 (IS)) <| gP xA ?_;refine Ke ?_;exact Z9.o)|fail):p:=h ⟨k⟩
theorem Hj (k:p') (h:Hd9 p'→p:=by with_reducible first|(intro Z9;refine Tx 9 ?_;refine gO xEq <| gO xA ?_;exact Z9.o)|fail):p:=h ⟨k⟩
theorem IR (k:p') (h:Hd9 p'→p:=by with_reducible first|(intro Z9;refine Tx 11 ?_;refine gO xEq <| gO xA ?_;exact Z9.o)|fail):p:=h ⟨k⟩
theorem IT (h:p:=by
 exact this.more (by decide) (by decide)):p:=h
theorem AqA (h:p:=by first|exact xCl func219 (RV)|exact xCl func219 (RU)):p:=h
theorem WV (t u:Bool) {ps:List Prt} {bs:List Bk} (os:List Int) (c:Ct) (i:Nat) {y:Bk} (hy:bs[i]?=some y) (B:Ana ps bs.length y) (hR:c.R.length=bs.length) (sR:∀ p∈c.R,IwS p LB LB) (hn:bs.length≤1000000) (hpn:ps.length≤1000000):CV prog An 126 [aDg t ps bs os,.agg (dCt u c),aI (i:Int)] [aB (CN ps c.R y i)]:=by
 refine cvz func126 ntmps126 ?_
 have hil:=(gS.1 hy).1
 have hBl:=B.len
 have wi:=(Bp sR i).more LBx LBx
 have hwi:=Ajk (R:=c.R) (k:=i) (by omega)
 rcases B.hk with h|h|h|h|h|h|h|h|h|h|h|h
 ·
  obtain ⟨j,pp,hA0,ha0,hp,PS⟩:=B.port h
  have l3:=(gS.1 hp).1
  have hL0:=(gS.1 hA0).1
  have f0:=PS.l0
  have f1:=PS.le
  have f2:=PS.h1
  have f3:=PS.f0
  have f4:=PS.f1
  have IN:=AdF pp.lo pp.hi (by omega) (by omega)
  have UN:=Va pp.fr (by omega) (by omega)
  have SC:=Rq (Dd [(pp.lo,0),(pp.hi,0)]) (pw (-pp.fr)) (Mt (PQ pp.lo (by omega) (by decide)) (PQ pp.hi (by omega) (by decide))).2.2 ((Aae f3 f4).more (by decide) (by decide))
  rw [show PK (Dd [(pp.lo,0),(pp.hi,0)]) (pw (-pp.fr))=Mw pp from PS.scale] at SC
  have hb:IK ps c.R y=Mw pp:=by unfold IK FF;rw [if_neg (by omega),if_pos h,hA0];simp [hp]
  have ws:IwS (Mw pp) 20000 20000:=PS.iw.more (by decide) (by decide)
  unfold CN
  rw [hb]
  have IS:=BW _ _ ws wi
  repeat' (with_reducible first|refine GA ?_|(refine AJ (id:=7) 9 AX (by kernel_rfl) ?_;dsimp only [List.take,List.drop];refine gP xF <| gP xD <| gP xF <| gP xD <| gP (by first|exact xIr Af (hwi)|exact xIr Af (AF hA0)) <| gP xD <| gP (by first|exact xIr Bv (hwi)|exact xIr Bv (Fy hp)) <| gP xL <| gQ (xAl MY) ?_;refine Ke ?_;refine gZ (xSk Lh) ?_)|(refine AJ (id:=8) 9 AX (by kernel_rfl) ?_;dsimp only [List.take,List.drop];refine gP xF <| gP xD <| gP xF <| gP xD <| gP (xCl func139 (IN)) <| gP xF <| gP xD <| gP (xCl func218 (UN)) <| gP (xCl func138 (SC)) ?_;refine Ke ?_;refine gZ (xSk Ag) ?_))
  exact DH
 ·
  have hv:=B.sv (by omega)
  have RV:=Gv y.vn y.ve hv
  have sv:=(Fc hv).more LBx LBx
  have PT:=EN (Ac y.vn 0 y.ve) sv.ok sv.lz
  have hb:IK ps c.R y=((Ac y.vn 0 y.ve),(Ac y.vn 0 y.ve)):=by unfold IK FF Gc;simp [h]
  have ws:IwS (((Ac y.vn 0 y.ve),(Ac y.vn 0 y.ve))) 20000 20000:=by
   have:=GZ (y:=y) (DF (y:=y) sR) (fun h2=>B.sv (by omega)) (fun h2=>B.su h2) (by omega)
   rw [show Gc y (CY c.R y)=((Ac y.vn 0 y.ve),(Ac y.vn 0 y.ve)) by unfold Gc;simp [h]] at this
   exact IT
  unfold CN
  rw [hb]
  have IS:=BW _ _ ws wi
  repeat' (with_reducible first|refine GA ?_|refine Hj ?_|(refine Tx 10 ?_;refine gO xF <| gO xL <| gO (xCl func219 (RV)) <| gO (xCl func140 (PT)) <| gZ (xSk Ag) ?_))
  exact DH
 ·
  obtain ⟨a,hA0,ha0,hl0⟩:=B.a0 (by omega)
  have hl0:=hl0 (by omega)
  have hL0:=(gS.1 hA0).1
  obtain ⟨P,hP⟩:∃ P,c.R[a]?.getD iZ=P:=⟨_,rfl⟩
  have sp:=(Bp sR a).more LBx LBx
  have A0:=Cj t u c y 0 hA0 (by omega) (by omega) (by omega)
  have hj0:(CY c.R y)[0]?=some P:=CD (by omega) hA0 (by rw [am,←hP];exact Vl (by omega))
  rw [hP] at sp A0
  have hv:=B.sv (by omega)
  have RV:=Gv y.vn y.ve hv
  have sv:=(Fc hv).more LBx LBx
  have PT:=EN (Ac y.vn 0 y.ve) sv.ok sv.lz
  have C:=AdG ((Ac y.vn 0 y.ve),(Ac y.vn 0 y.ve)) P (.pt sv) sp
  have hb:IK ps c.R y=Uv ((Ac y.vn 0 y.ve),(Ac y.vn 0 y.ve)) P:=by unfold IK;rw [if_pos h,ha0,YS,hP]
  have ws:IwS (Uv ((Ac y.vn 0 y.ve),(Ac y.vn 0 y.ve)) P) 20000 20000:=(IwS.pt (Fc hv)).hull (hP ▸ Bp sR a) |>.more LBx LBx
  unfold CN
  rw [hb]
  have IS:=BW _ _ ws wi
  repeat' (with_reducible first|refine GA ?_|refine Hj ?_|refine IR ?_|(refine Tx 12 ?_;refine gO xF <| gO xL <| gO (xCl func219 (RV)) <| gO (xCl func140 (PT)) <| gO xM <| gO (xCc func217 A0 (args:=[_]) rfl) <| gO (xCl func142 (C)) <| gZ (xSk Ag) ?_))
  exact DH
 ·
  obtain ⟨a,hA0,ha0,hl0⟩:=B.a0 (by omega)
  have hl0:=hl0 (by omega)
  have hL0:=(gS.1 hA0).1
  obtain ⟨P,hP⟩:∃ P,c.R[a]?.getD iZ=P:=⟨_,rfl⟩
  have sp:=(Bp sR a).more LBx LBx
  have A0:=Cj t u c y 0 hA0 (by omega) (by omega) (by omega)
  have hj0:(CY c.R y)[0]?=some P:=CD (by omega) hA0 (by rw [am,←hP];exact Vl (by omega))
  rw [hP] at sp A0
  obtain ⟨b,hA1,ha1,hl1⟩:=B.a1 (by omega)
  have hL1:=(gS.1 hA1).1
  obtain ⟨Q,hQ⟩:∃ Q,c.R[b]?.getD iZ=Q:=⟨_,rfl⟩
  have sq:=(Bp sR b).more LBx LBx
  have A1:=Cj t u c y 1 hA1 (by omega) (by omega) (by omega)
  have hj1:(CY c.R y)[1]?=some Q:=CD (by omega) hA1 (by rw [am,←hQ];exact Vl (by omega))
  rw [hQ] at sq A1
  have C:=Yv P Q sp sq
  have hb:IK ps c.R y=AgJ P Q:=by unfold IK FF Gc;simp [h,hj0,hj1]
  have ws:IwS (AgJ P Q) 20000 20000:=by
   have:=GZ (y:=y) (DF (y:=y) sR) (fun h2=>B.sv (by omega)) (fun h2=>B.su h2) (by omega)
   rw [show Gc y (CY c.R y)=AgJ P Q by unfold Gc;simp [h,hj0,hj1]] at this
   exact IT
  unfold CN
  rw [hb]
  have IS:=BW _ _ ws wi
  repeat' (with_reducible first|refine GA ?_|refine Hj ?_|refine IR ?_|(refine Tx 13 ?_;refine gO xEq <| gO xA ?_)|(refine Tx 14 ?_;refine gO xM <| gO (xCc func217 A0 (args:=[_]) rfl) <| gO xM <| gO (xCc func217 A1 (args:=[_]) rfl) <| gO (xCl func143 (C)) <| gZ (xSk Ag) ?_))
  exact DH
 ·
  obtain ⟨a,hA0,ha0,hl0⟩:=B.a0 (by omega)
  have hl0:=hl0 (by omega)
  have hL0:=(gS.1 hA0).1
  obtain ⟨P,hP⟩:∃ P,c.R[a]?.getD iZ=P:=⟨_,rfl⟩
  have sp:=(Bp sR a).more LBx LBx
  have A0:=Cj t u c y 0 hA0 (by omega) (by omega) (by omega)
  have hj0:(CY c.R y)[0]?=some P:=CD (by omega) hA0 (by rw [am,←hP];exact Vl (by omega))
  rw [hP] at sp A0
  obtain ⟨b,hA1,ha1,hl1⟩:=B.a1 (by omega)
  have hL1:=(gS.1 hA1).1
  obtain ⟨Q,hQ⟩:∃ Q,c.R[b]?.getD iZ=Q:=⟨_,rfl⟩
  have sq:=(Bp sR b).more LBx LBx
  have A1:=Cj t u c y 1 hA1 (by omega) (by omega) (by omega)
  have hj1:(CY c.R y)[1]?=some Q:=CD (by omega) hA1 (by rw [am,←hQ];exact Vl (by omega))
  rw [hQ] at sq A1
  have C:=Ahd P Q sp sq
  have hb:IK ps c.R y=AmY P Q:=by unfold IK FF Gc;simp [h,hj0,hj1]
  have ws:IwS (AmY P Q) 20000 20000:=by
   have:=GZ (y:=y) (DF (y:=y) sR) (fun h2=>B.sv (by omega)) (fun h2=>B.su h2) (by omega)
   rw [show Gc y (CY c.R y)=AmY P Q by unfold Gc;simp [h,hj0,hj1]] at this
   exact IT
  unfold CN
  rw [hb]
  have IS:=BW _ _ ws wi
  repeat' (with_reducible first|refine GA ?_|refine Hj ?_|refine IR ?_|(refine Tx 13 ?_;refine gO xEq <| gO xA ?_)|(refine Tx 15 ?_;refine gO xEq <| gO xA ?_)|(refine Tx 16 ?_;refine gO xM <| gO (xCc func217 A0 (args:=[_]) rfl) <| gO xM <| gO (xCc func217 A1 (args:=[_]) rfl) <| gO (xCl func144 (C)) <| gZ (xSk Ag) ?_))
  exact DH
 ·
  obtain ⟨a,hA0,ha0,hl0⟩:=B.a0 (by omega)
  have hl0:=hl0 (by omega)
  have hL0:=(gS.1 hA0).1
  obtain ⟨P,hP⟩:∃ P,c.R[a]?.getD iZ=P:=⟨_,rfl⟩
  have sp:=(Bp sR a).more LBx LBx
  have A0:=Cj t u c y 0 hA0 (by omega) (by omega) (by omega)
  have hj0:(CY c.R y)[0]?=some P:=CD (by omega) hA0 (by rw [am,←hP];exact Vl (by omega))
  rw [hP] at sp A0
  have C:=Yu P sp
  have hb:IK ps c.R y=Aft P:=by unfold IK FF Gc;simp [h,hj0]
  have ws:IwS (Aft P) 20000 20000:=by
   have:=GZ (y:=y) (DF (y:=y) sR) (fun h2=>B.sv (by omega)) (fun h2=>B.su h2) (by omega)
   rw [show Gc y (CY c.R y)=Aft P by unfold Gc;simp [h,hj0]] at this
   exact IT
  unfold CN
  rw [hb]
  have IS:=BW _ _ ws wi
  repeat' (with_reducible first|refine GA ?_|refine Hj ?_|refine IR ?_|(refine Tx 13 ?_;refine gO xEq <| gO xA ?_)|(refine Tx 15 ?_;refine gO xEq <| gO xA ?_)|(refine Tx 17 ?_;refine gO xEq <| gO xA ?_)|(refine Tx 19 ?_;refine gO xEq <| gO xA ?_)|(refine Tx 20 ?_;refine gO xM <| gO (xCc func217 A0 (args:=[_]) rfl) <| gO (xCl func146 (C)) <| gZ (xSk Ag) ?_))
  exact DH
 ·
  obtain ⟨a,hA0,ha0,hl0⟩:=B.a0 (by omega)
  have hl0:=hl0 (by omega)
  have hL0:=(gS.1 hA0).1
  obtain ⟨P,hP⟩:∃ P,c.R[a]?.getD iZ=P:=⟨_,rfl⟩
  have sp:=(Bp sR a).more LBx LBx
  have A0:=Cj t u c y 0 hA0 (by omega) (by omega) (by omega)
  have hj0:(CY c.R y)[0]?=some P:=CD (by omega) hA0 (by rw [am,←hP];exact Vl (by omega))
  rw [hP] at sp A0
  have hv:=B.sv (by omega)
  have RV:=Gv y.vn y.ve hv
  have sv:=(Fc hv).more LBx LBx
  have C:=Rq P (Ac y.vn 0 y.ve) sp sv
  have hb:IK ps c.R y=PK P (Ac y.vn 0 y.ve):=by unfold IK FF Gc;simp [h,hj0]
  have ws:IwS (PK P (Ac y.vn 0 y.ve)) 20000 20000:=by
   have:=GZ (y:=y) (DF (y:=y) sR) (fun h2=>B.sv (by omega)) (fun h2=>B.su h2) (by omega)
   rw [show Gc y (CY c.R y)=PK P (Ac y.vn 0 y.ve) by unfold Gc;simp [h,hj0]] at this
   exact IT
  unfold CN
  rw [hb]
  have IS:=BW _ _ ws wi
  repeat' (with_reducible first|refine GA ?_|refine Hj ?_|refine IR ?_|(refine Tx 13 ?_;refine gO xEq <| gO xA ?_)|(refine Tx 15 ?_;refine gO xEq <| gO xA ?_)|(refine Tx 17 ?_;refine gO xEq <| gO xA ?_)|(refine Tx 19 ?_;refine gO xEq <| gO xA ?_)|(refine Tx 21 ?_;refine gO xEq <| gO xA ?_)|(refine Tx 23 ?_;refine gO xEq <| gO xA ?_)|(refine AJ (id:=24) 6 AX (by kernel_rfl) ?_;dsimp only [List.take,List.drop];refine gP xM <| gP (xCc func217 A0 (args:=[_]) rfl) <| gP xF <| gP xL <| gP (xCl func219 (RV)) <| gP (xCl func138 (C)) ?_;refine Ke ?_;refine gZ (xSk Ag) ?_))
  exact DH
 ·
  obtain ⟨a,hA0,ha0,hl0⟩:=B.a0 (by omega)
  have hl0:=hl0 (by omega)
  have hL0:=(gS.1 hA0).1
  obtain ⟨P,hP⟩:∃ P,c.R[a]?.getD iZ=P:=⟨_,rfl⟩
  have sp:=(Bp sR a).more LBx LBx
  have A0:=Cj t u c y 0 hA0 (by omega) (by omega) (by omega)
  have hj0:(CY c.R y)[0]?=some P:=CD (by omega) hA0 (by rw [am,←hP];exact Vl (by omega))
  rw [hP] at sp A0
  obtain ⟨b,hA1,ha1,hl1⟩:=B.a1 (by omega)
  have hL1:=(gS.1 hA1).1
  obtain ⟨Q,hQ⟩:∃ Q,c.R[b]?.getD iZ=Q:=⟨_,rfl⟩
  have sq:=(Bp sR b).more LBx LBx
  have A1:=Cj t u c y 1 hA1 (by omega) (by omega) (by omega)
  have hj1:(CY c.R y)[1]?=some Q:=CD (by omega) hA1 (by rw [am,←hQ];exact Vl (by omega))
  rw [hQ] at sq A1
  have C:=Yy P Q sp sq
  have hb:IK ps c.R y=Wl P Q:=by unfold IK FF Gc;simp [h,hj0,hj1]
  have ws:IwS (Wl P Q) 20000 20000:=by
   have:=GZ (y:=y) (DF (y:=y) sR) (fun h2=>B.sv (by omega)) (fun h2=>B.su h2) (by omega)
   rw [show Gc y (CY c.R y)=Wl P Q by unfold Gc;simp [h,hj0,hj1]] at this
   exact IT
  unfold CN
  rw [hb]
  have IS:=BW _ _ ws wi
  repeat' (with_reducible first|refine GA ?_|refine Hj ?_|refine IR ?_|(refine Tx 13 ?_;refine gO xEq <| gO xA ?_)|(refine Tx 15 ?_;refine gO xEq <| gO xA ?_)|(refine Tx 17 ?_;refine gO xEq <| gO xA ?_)|(refine Tx 18 ?_;refine gO xM <| gO (xCc func217 A0 (args:=[_]) rfl) <| gO xM <| gO (xCc func217 A1 (args:=[_]) rfl) <| gO (xCl func145 (C)) <| gZ (xSk Ag) ?_))
  exact DH
 ·
  obtain ⟨a,hA0,ha0,hl0⟩:=B.a0 (by omega)
  have hl0:=hl0 (by omega)
  have hL0:=(gS.1 hA0).1
  obtain ⟨P,hP⟩:∃ P,c.R[a]?.getD iZ=P:=⟨_,rfl⟩
  have sp:=(Bp sR a).more LBx LBx
  have A0:=Cj t u c y 0 hA0 (by omega) (by omega) (by omega)
  have hj0:(CY c.R y)[0]?=some P:=CD (by omega) hA0 (by rw [am,←hP];exact Vl (by omega))
  rw [hP] at sp A0
  obtain ⟨b,hA1,ha1,hl1⟩:=B.a1 (by omega)
  have hL1:=(gS.1 hA1).1
  obtain ⟨Q,hQ⟩:∃ Q,c.R[b]?.getD iZ=Q:=⟨_,rfl⟩
  have sq:=(Bp sR b).more LBx LBx
  have A1:=Cj t u c y 1 hA1 (by omega) (by omega) (by omega)
  have hj1:(CY c.R y)[1]?=some Q:=CD (by omega) hA1 (by rw [am,←hQ];exact Vl (by omega))
  rw [hQ] at sq A1
  have C:=Yw P Q sp sq
  have hb:IK ps c.R y=AgK P Q:=by unfold IK FF Gc;simp [h,hj0,hj1]
  have ws:IwS (AgK P Q) 20000 20000:=by
   have:=GZ (y:=y) (DF (y:=y) sR) (fun h2=>B.sv (by omega)) (fun h2=>B.su h2) (by omega)
   rw [show Gc y (CY c.R y)=AgK P Q by unfold Gc;simp [h,hj0,hj1]] at this
   exact IT
  unfold CN
  rw [hb]
  have IS:=BW _ _ ws wi
  repeat' (with_reducible first|refine GA ?_|refine Hj ?_|refine IR ?_|(refine Tx 13 ?_;refine gO xEq <| gO xA ?_)|(refine Tx 15 ?_;refine gO xEq <| gO xA ?_)|(refine Tx 17 ?_;refine gO xEq <| gO xA ?_)|(refine Tx 19 ?_;refine gO xEq <| gO xA ?_)|(refine Tx 21 ?_;refine gO xEq <| gO xA ?_)|(refine Tx 23 ?_;refine gO xEq <| gO xA ?_)|(refine Tx 25 ?_;refine gO xEq <| gO xA ?_)|(refine Tx 26 ?_;refine gO xM <| gO (xCc func217 A0 (args:=[_]) rfl) <| gO xM <| gO (xCc func217 A1 (args:=[_]) rfl) <| gO (xCl func148 (C)) <| gZ (xSk Ag) ?_))
  exact DH
 ·
  obtain ⟨a,hA0,ha0,hl0⟩:=B.a0 (by omega)
  have hl0:=hl0 (by omega)
  have hL0:=(gS.1 hA0).1
  obtain ⟨P,hP⟩:∃ P,c.R[a]?.getD iZ=P:=⟨_,rfl⟩
  have sp:=(Bp sR a).more LBx LBx
  have A0:=Cj t u c y 0 hA0 (by omega) (by omega) (by omega)
  have hj0:(CY c.R y)[0]?=some P:=CD (by omega) hA0 (by rw [am,←hP];exact Vl (by omega))
  rw [hP] at sp A0
  obtain ⟨b,hA1,ha1,hl1⟩:=B.a1 (by omega)
  have hL1:=(gS.1 hA1).1
  obtain ⟨Q,hQ⟩:∃ Q,c.R[b]?.getD iZ=Q:=⟨_,rfl⟩
  have sq:=(Bp sR b).more LBx LBx
  have A1:=Cj t u c y 1 hA1 (by omega) (by omega) (by omega)
  have hj1:(CY c.R y)[1]?=some Q:=CD (by omega) hA1 (by rw [am,←hQ];exact Vl (by omega))
  rw [hQ] at sq A1
  have C:=Yx P Q sp sq
  have hb:IK ps c.R y=Afu P Q:=by unfold IK FF Gc;simp [h,hj0,hj1]
  have ws:IwS (Afu P Q) 20000 20000:=by
   have:=GZ (y:=y) (DF (y:=y) sR) (fun h2=>B.sv (by omega)) (fun h2=>B.su h2) (by omega)
   rw [show Gc y (CY c.R y)=Afu P Q by unfold Gc;simp [h,hj0,hj1]] at this
   exact IT
  unfold CN
  rw [hb]
  have IS:=BW _ _ ws wi
  repeat' (with_reducible first|refine GA ?_|refine Hj ?_|refine IR ?_|(refine Tx 13 ?_;refine gO xEq <| gO xA ?_)|(refine Tx 15 ?_;refine gO xEq <| gO xA ?_)|(refine Tx 17 ?_;refine gO xEq <| gO xA ?_)|(refine Tx 19 ?_;refine gO xEq <| gO xA ?_)|(refine Tx 21 ?_;refine gO xEq <| gO xA ?_)|(refine Tx 23 ?_;refine gO xEq <| gO xA ?_)|(refine Tx 25 ?_;refine gO xEq <| gO xA ?_)|(refine Tx 27 ?_;refine gO xEq <| gO xA ?_)|(refine Tx 28 ?_;refine gO xM <| gO (xCc func217 A0 (args:=[_]) rfl) <| gO xM <| gO (xCc func217 A1 (args:=[_]) rfl) <| gO (xCl func149 (C)) <| gZ (xSk Ag) ?_))
  exact DH
 ·
  obtain ⟨a,hA0,ha0,hl0⟩:=B.a0 (by omega)
  have hl0:=hl0 (by omega)
  have hL0:=(gS.1 hA0).1
  obtain ⟨P,hP⟩:∃ P,c.R[a]?.getD iZ=P:=⟨_,rfl⟩
  have sp:=(Bp sR a).more LBx LBx
  have A0:=Cj t u c y 0 hA0 (by omega) (by omega) (by omega)
  have hj0:(CY c.R y)[0]?=some P:=CD (by omega) hA0 (by rw [am,←hP];exact Vl (by omega))
  rw [hP] at sp A0
  have C:=Yz P sp
  have hb:IK ps c.R y=Rj P:=by unfold IK FF Gc;simp [h,hj0]
  have ws:IwS (Rj P) 20000 20000:=by
   have:=GZ (y:=y) (DF (y:=y) sR) (fun h2=>B.sv (by omega)) (fun h2=>B.su h2) (by omega)
   rw [show Gc y (CY c.R y)=Rj P by unfold Gc;simp [h,hj0]] at this
   exact IT
  unfold CN
  rw [hb]
  have IS:=BW _ _ ws wi
  repeat' (with_reducible first|refine GA ?_|refine Hj ?_|refine IR ?_|(refine Tx 13 ?_;refine gO xEq <| gO xA ?_)|(refine Tx 15 ?_;refine gO xEq <| gO xA ?_)|(refine Tx 17 ?_;refine gO xEq <| gO xA ?_)|(refine Tx 19 ?_;refine gO xEq <| gO xA ?_)|(refine Tx 21 ?_;refine gO xEq <| gO xA ?_)|(refine Tx 22 ?_;refine gO xM <| gO (xCc func217 A0 (args:=[_]) rfl) <| gO (xCl func147 (C)) <| gZ (xSk Ag) ?_))
  exact DH
 ·
  obtain ⟨a,hA0,ha0,hl0⟩:=B.a0 (by omega)
  have hl0:=hl0 (by omega)
  have hL0:=(gS.1 hA0).1
  obtain ⟨P,hP⟩:∃ P,c.R[a]?.getD iZ=P:=⟨_,rfl⟩
  have sp:=(Bp sR a).more LBx LBx
  have A0:=Cj t u c y 0 hA0 (by omega) (by omega) (by omega)
  have hj0:(CY c.R y)[0]?=some P:=CD (by omega) hA0 (by rw [am,←hP];exact Vl (by omega))
  rw [hP] at sp A0
  have hv:=B.sv (by omega)
  have RV:=Gv y.vn y.ve hv
  have sv:=(Fc hv).more LBx LBx
  have hu:=B.su h
  have RU:=Gv y.un y.ue hu
  have su:=(Fc hu).more LBx LBx
  have C:=AdI P (Ac y.vn 0 y.ve) (Ac y.un 0 y.ue) sp sv su (B.cl h)
  have hb:IK ps c.R y=ZJ P (Ac y.vn 0 y.ve) (Ac y.un 0 y.ue):=by unfold IK FF Gc;simp [h,hj0]
  have ws:IwS (ZJ P (Ac y.vn 0 y.ve) (Ac y.un 0 y.ue)) 20000 20000:=by
   have:=GZ (y:=y) (DF (y:=y) sR) (fun h2=>B.sv (by omega)) (fun h2=>B.su h2) (by omega)
   rw [show Gc y (CY c.R y)=ZJ P (Ac y.vn 0 y.ve) (Ac y.un 0 y.ue) by unfold Gc;simp [h,hj0]] at this
   exact IT
  unfold CN
  rw [hb]
  have IS:=BW _ _ ws wi
  repeat' (with_reducible first|refine GA ?_|refine Hj ?_|refine IR ?_|(refine Tx 13 ?_;refine gO xEq <| gO xA ?_)|(refine Tx 15 ?_;refine gO xEq <| gO xA ?_)|(refine Tx 17 ?_;refine gO xEq <| gO xA ?_)|(refine Tx 19 ?_;refine gO xEq <| gO xA ?_)|(refine Tx 21 ?_;refine gO xEq <| gO xA ?_)|(refine Tx 23 ?_;refine gO xEq <| gO xA ?_)|(refine Tx 25 ?_;refine gO xEq <| gO xA ?_)|(refine Tx 27 ?_;refine gO xEq <| gO xA ?_)|(refine Hu (id:=5) 12 [(12,11)] AX (by kernel_rfl) ?_;dsimp only [List.take,List.drop];refine gP xM <| gP (xCc func217 A0 (args:=[_]) rfl) <| gP xF <| gP xL <| gP AqA <| gP xF <| gP xL <| gP AqA <| gP (xCl func150 (C)) <| gP xMt <| gP (by exact Nz rfl rfl rfl) <| gP xEx ?_;refine Ke ?_;refine gZ (xSk Ag) ?_))
  exact DH
end Go.Proofs.YtmdfjbpggbhgnaaGreatDoor
