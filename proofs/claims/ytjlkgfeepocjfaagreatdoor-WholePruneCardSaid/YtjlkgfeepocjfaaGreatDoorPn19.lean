/- What the proofs of this claim share, part 19. No conditions. -/
import Derived.Test.YtjlkgfeepocjfaaGreatDoorPn9
import Derived.Test.YtjlkgfeepocjfaaGreatDoorPn17
import Derived.Test.YtjlkgfeepocjfaaGreatDoorPn14
import Derived.Test.YtjlkgfeepocjfaaGreatDoorPn18
import Derived.Test.YtjlkgfeepocjfaaGreatDoorPn5
import Derived.Test.YtjlkgfeepocjfaaGreatDoorPn15
import Derived.Test.YtjlkgfeepocjfaaGreatDoorPn11
import Derived.Test.YtjlkgfeepocjfaaGreatDoorPn10
import Derived.Test.YtjlkgfeepocjfaaGreatDoorPn16
import Derived.Lib.AppendZerosOnto
import Derived.Maps.AppendAt
set_option maxRecDepth 100000
set_option maxHeartbeats 8000000
set_option linter.all false
open Go.Proofs.Tryz
namespace Go.Proofs.YtjlkgfeepocjfaaGreatDoor
open Go.RowKit
variable {e:TypeId} {by_ i id s:Nat} {F:Frm} {H:List Ob} {xs:List Ins} {os:List Int} {ps:List Prt} {p p':Prop} {K:Frm→List Ob→Prop} {o:Oper} {l:List Oper}
section
variable {P:Program} {G:World→Prop} {o:Oper} {F:Frm} {H:List Ob}
theorem Att {t:TypeId} {x y:Operand} {n m' n':Nat} {tg:Bool} {z:Value} {cs cs2:List C} {ds:List D} (ho:o.op=.call { callee:=.builtin .append,args:=#[x,y],argTypes:=#[t,t] }) (hx:F.ev x=.one (.own id n)) (hH:H[id]?=some (.row e s n cs)) (hy:F.ev y=.one (.d (.row tg s m' ds))) (ht:TyS P t e s) (hz:TyZ P e z s by_) (hn:n+m'≤100000000000) (hby:by_≤1000) (h0:0<s) (hl:ds.length=m'*s) (hys:cs++ds.map C.d=cs2) (hn':n+m'=n'):TOk P G o F H (.one (.own id n')) (H.set id (.row e s n' cs2)):=by
 subst hys
 subst hn'
 exact Mo ho hx hH hy .row ht hz hn h0 hby (by simp [hl])
end
open Cd
theorem AaS (t:Bool) {ps:List Prt} {is:List Int} {xs:List Ins} {os:List Int} (l1:ps.length≤1000000) (l2:is.length≤1000000) (l3:xs.length≤1000000) (l4:os.length≤1000000) (h0:Cr ps is xs os=0):CV prog An 54 [AfH t ps is xs os] [aE 0]:=fun w S vs hg hlt ha=>by
 obtain ⟨v,rfl,hv⟩:=CG ha
 obtain ⟨ys,rfl,hl0⟩:=hv
 obtain ⟨v0,x1,rfl,q0,h⟩:=AP.uncons hl0
 obtain ⟨v1,x2,rfl,q1,h⟩:=h.uncons
 obtain ⟨v2,x3,rfl,q2,h⟩:=h.uncons
 obtain ⟨v3,x4,rfl,q3,h⟩:=h.uncons
 have:=h.unnil
 subst this
 unfold CU at q0
 rw [Gy Mw] at q0
 unfold Ahh at q2
 rw [Gy Aed] at q2
 obtain ⟨A1,c1,rfl,_,_,_,k1⟩:=Ps hlt q0
 obtain ⟨A2,c2,rfl,_,_,k2⟩:=Mv hlt q1
 obtain ⟨A3,c3,rfl,_,_,_,k3⟩:=Ps hlt q2
 obtain ⟨A4,c4,rfl,_,_,k4⟩:=Mv hlt q3
 refine (Cd.Check_any A1 A2 A3 A4 ps is xs os c1 c2 c3 c4 _ w (aa _) k1 k2 k3 k4).mono fun e w' ⟨he,hb⟩=>?_
 rw [h0] at he
 exact ⟨_,he,Ba.val (ZP _),hb⟩
theorem Apo {P:Program} {G:World→Prop} {N:Nat} {x y:Code} {Q:Sg} (K:Frm→List Ob→Prop) (h:CW P G N x F H (TE (wkC N K) Q)) (k:∀ F' H',K F' H'→CW P G N y F' H' Q):CW P G N x F H (TE (fun F' H'=>CW P G N y F' H' Q) Q) :=
 Amn h fun e F H h3=>by
  cases e with
  | normal =>
   obtain ⟨F3,H3,k4,hK⟩:=h3
   exact AY k4 (k _ _ hK)
  | _=>exact h3
theorem Xy (n:Int):CVF prog An 55 [aI n] [aB (CB n)]:=fun w S vs hg hlt ha=>by
 obtain ⟨u,hu,h2⟩:=CG ha
 subst hu
 cases h2
 refine (Iz n w).mono fun r w' ⟨he,hw⟩=>?_
 subst hw
 exact ⟨_,he,Ba.val rfl,ah _ _⟩
theorem BR (x:Int) {k:Int} (h1 : -62≤k) (h2:k≤30):CVF prog An 56 [aI x,aI k] [aI (scl x k)]:=fun w S vs hg hlt ha=>by
 obtain ⟨v,vs',rfl,q1,ha⟩:=ha.uncons
 obtain ⟨u,hu,q2⟩:=CG ha
 subst hu
 cases q1
 cases q2
 refine (Acs x k w h1 h2).mono fun r w' ⟨he,hw⟩=>?_
 subst hw
 exact ⟨_,he,Ba.val rfl,ah _ _⟩
def Ol (x:Ins) (cs inn:List Int):Int :=
 if x.op=0 then scl (inn[x.a.toNat]?.getD 0) x.sa
 else if x.op=1 then x.imm
 else if x.op=2 then scl (cs[x.a.toNat]?.getD 0) x.sa
 else if x.op=3 then scl (cs[x.a.toNat]?.getD 0) x.sa+scl (cs[x.b.toNat]?.getD 0) x.sb
 else if x.op=4 then scl (cs[x.a.toNat]?.getD 0) x.sa - scl (cs[x.b.toNat]?.getD 0) x.sb
 else if x.op=5 then -scl (cs[x.a.toNat]?.getD 0) x.sa
 else if x.op=6 then scl (cs[x.a.toNat]?.getD 0*x.imm) x.sa
 else if x.op=7 then scl (cs[x.a.toNat]?.getD 0*cs[x.b.toNat]?.getD 0) x.sa
 else if x.op=8 then min (scl (cs[x.a.toNat]?.getD 0) x.sa) (scl (cs[x.b.toNat]?.getD 0) x.sb)
 else if x.op=9 then max (scl (cs[x.a.toNat]?.getD 0) x.sa) (scl (cs[x.b.toNat]?.getD 0) x.sb)
 else max (scl (cs[x.a.toNat]?.getD 0) x.sa) (-scl (cs[x.a.toNat]?.getD 0) x.sa)
section
variable {x:Ins} {cs inn:List Int} {w y:Int}
theorem Avk (h:x.op=0) (hw:inn[x.a.toNat]?=some w):Ol x cs inn=scl w x.sa:=by simp [Ol,h,hw]
theorem AjB (h:x.op=1):Ol x cs inn=x.imm:=by simp [Ol,h]
theorem App (h:x.op=2) (hw:cs[x.a.toNat]?=some w):Ol x cs inn=scl w x.sa:=by simp [Ol,h,hw]
theorem Atu (h:x.op=3) (hw:cs[x.a.toNat]?=some w) (hy:cs[x.b.toNat]?=some y):Ol x cs inn=scl w x.sa+scl y x.sb:=by simp [Ol,h,hw,hy]
theorem Atv (h:x.op=4) (hw:cs[x.a.toNat]?=some w) (hy:cs[x.b.toNat]?=some y):Ol x cs inn=scl w x.sa - scl y x.sb:=by simp [Ol,h,hw,hy]
theorem Atw (h:x.op=5) (hw:cs[x.a.toNat]?=some w):Ol x cs inn = -scl w x.sa:=by simp [Ol,h,hw]
theorem Apq (h:x.op=6) (hw:cs[x.a.toNat]?=some w):Ol x cs inn=scl (w*x.imm) x.sa:=by simp [Ol,h,hw]
theorem Atx (h:x.op=7) (hw:cs[x.a.toNat]?=some w) (hy:cs[x.b.toNat]?=some y):Ol x cs inn=scl (w*y) x.sa:=by simp [Ol,h,hw,hy]
theorem Aty (h:x.op=8) (hw:cs[x.a.toNat]?=some w) (hy:cs[x.b.toNat]?=some y):Ol x cs inn=min (scl w x.sa) (scl y x.sb):=by simp [Ol,h,hw,hy]
theorem Atz (h:x.op=9) (hw:cs[x.a.toNat]?=some w) (hy:cs[x.b.toNat]?=some y):Ol x cs inn=max (scl w x.sa) (scl y x.sb):=by simp [Ol,h,hw,hy]
theorem AtA (h:x.op=10) (hw:cs[x.a.toNat]?=some w):Ol x cs inn=max (scl w x.sa) (-scl w x.sa):=by simp [Ol,h,hw]
end
def Apr (n:Int):Int:=max (-2147483648) (min n 2147483647)
theorem Aps {n:Int} (h:CB n=true):Apr n=n:=by have:=UY h;unfold Apr;omega
theorem Acz (n:Int):CB (Apr n)=true:=by unfold CB Apr;rw [decide_eq_true_eq];omega
def Agv (inn:List Int) (st:List Int × Bool) (x:Ins):List Int × Bool:=(st.1.set x.dst.toNat (Apr (Ol x st.1 inn)),st.2 || !CB (Ol x st.1 inn))
def Om (inn:List Int) (xs:List Ins) (cs:List Int):List Int × Bool:=xs.foldl (Agv inn) (cs,false)
theorem Agw (inn:List Int) (xs:List Ins) (x:Ins) (cs:List Int):Om inn (xs++[x]) cs=Agv inn (Om inn xs cs) x:=by simp [Om,io]
theorem Agx {inn:List Int} {cs:List Int} {k:Nat} {x:Ins} (h:xs[k]?=some x):Om inn (xs.take (k+1)) cs=((Om inn (xs.take k) cs).1.set x.dst.toNat (Apr (Ol x (Om inn (xs.take k) cs).1 inn)),(Om inn (xs.take k) cs).2 || !CB (Ol x (Om inn (xs.take k) cs).1 inn)):=by
 rw [ak,h]
 exact Agw _ _ _ _
theorem AaT (inn:List Int) (xs:List Ins) (cs:List Int):(Om inn xs cs).1.length=cs.length:=by
 unfold Om
 suffices h:∀ (l:List Ins) (st:List Int × Bool),(l.foldl (Agv inn) st).1.length=st.1.length from h xs (cs,false)
 intro l
 induction l with
 | nil=>exact fun _=>rfl
 | cons x l ih =>
  intro st
  rw [List.foldl_cons,ih]
  simp [Agv]
theorem AcA {inn:List Int} {cs:List Int} (h:∀ z∈cs,CB z=true):∀ z∈(Om inn xs cs).1,-2147483648≤z∧z<2147483648:=by
 suffices hh:∀ (l:List Ins) (st:List Int × Bool),(∀ z∈st.1,CB z=true)→∀ z∈(l.foldl (Agv inn) st).1,CB z=true from fun z hz=>UY (hh xs (cs,false) h z hz)
 intro l
 induction l with
 | nil=>exact fun _ h=>h
 | cons x l ih =>
  intro st hst
  refine ih _ fun z hz=>?_
  rcases kt hz with hz|rfl
  ·exact hst z hz
  ·exact Acz _
def Mc (C os:List Int):List Int:=os.map fun o=>C[o.toNat]?.getD 0
theorem AcB {C:List Int} {k:Nat} {o w:Int} (h:os[k]?=some o) (hw:C[o.toNat]?=some w):Mc C (os.take (k+1))=Mc C (os.take k)++[w]:=by
 rw [ak,h]
 simp [Mc,hw]
theorem Agy (C os:List Int) (k:Nat):(Mc C (os.take k)).length≤k:=by simp [Mc];omega
theorem Agz {x y:Int} (x0 : -2147483648≤x) (x1:x<2147483648) (y0 : -2147483648≤y) (y1:y<2147483648) : -9223372036854775808≤x*y∧x*y≤9223372036854775807:=by
 have h:(x*y).natAbs≤2147483648*2147483648:=by
  rw [fw]
  exact du (by omega) (by omega)
 omega
theorem Fm {x k:Int} (x0 : -2147483648≤x) (x1:x<2147483648) (h1 : -62≤k) (h2:k≤30) : -2305843009213693952≤scl x k∧scl x k≤2305843009213693952:=by
 unfold scl
 split
 ·have:=SM (x:=x) (-k).toNat
  omega
 ·rw [show max (-4294967296) (min x 4294967296)=x by omega]
  have h:(x*2 ^ k.toNat).natAbs≤2147483648*2 ^ 30:=by
   rw [fw,fx]
   exact du (by omega) (ba (by decide) (by omega))
  omega
theorem Vb {is:List Int} (h:Cr ps is xs os=0):ps.length≤16∧is.length≤192∧xs.length≤256∧os.length≤16:=bz fun hn=>by
 unfold Cr at h
 rw [if_pos hn] at h
 cases h
theorem Xz {is:List Int} (h:Cr ps is xs os=0):∀ e∈ps.map UZ++(is.map Va++(xs.map (Ins.err ps.length is.length)++os.map (Ts is.length))),e=0:=by
 have hl:=Vb h
 unfold Cr at h
 rw [if_neg (not_not_intro hl)] at h
 exact BH h
theorem AgA {is:List Int} {k:Nat} {o:Int} (h:Cr ps is xs os=0) (ho:os[k]?=some o):0≤o∧o<is.length:=by
 have:=Xz h (Ts is.length o) (by simp only [eo,jb];exact .inr (.inr (.inr ⟨o,gM ho,rfl⟩)))
 unfold Ts at this
 exact bz fun hn=>by rw [if_neg hn] at this;cases this
theorem AgB {is:List Int} {k:Nat} {x:Ins} (h:Cr ps is xs os=0) (hx:xs[k]?=some x) :
  (x.op=0∨x.op=1∨x.op=2∨x.op=3∨x.op=4∨x.op=5∨x.op=6∨x.op=7∨x.op=8∨x.op=9∨x.op=10)∧0≤x.dst∧x.dst<is.length ∧
  (x.op≠1→0≤x.a∧x.a<(if x.op=0 then (ps.length:Int) else is.length) ∧ -62≤x.sa∧x.sa≤30) ∧
  ((x.op=3∨x.op=4∨x.op=7∨x.op=8∨x.op=9)→0≤x.b∧x.b<is.length∧(x.op≠7 → -62≤x.sb∧x.sb≤30)) ∧
  ((x.op=1∨x.op=6) → -2147483648≤x.imm∧x.imm<2147483648):=by
 have h0:DU ps.length is.length x.op x.dst x.a x.b x.sa x.sb x.imm=0:=Xz h (Ins.err ps.length is.length x) (by simp only [eo,jb];exact .inr (.inr (.inl ⟨x,gM hx,rfl⟩)))
 have hu:(Cz x.op).2.2.2.2.2=true:=by
  cases hb:(Cz x.op).2.2.2.2.2 with
  | true=>rfl
  | false=>unfold DU at h0;rw [if_pos hb] at h0;cases h0
 have hop:x.op=0∨x.op=1∨x.op=2∨x.op=3∨x.op=4∨x.op=5∨x.op=6∨x.op=7∨x.op=8∨x.op=9∨x.op=10:=by
  unfold Cz at hu
  (repeat' split at hu) <;> first|omega|(simp at hu)
 have sh:∀ n:Int,¬ (Ls n=false) → -62≤n∧n≤30:=fun n hn=>by
  have:Ls n=true:=by cases hb:Ls n with|true=>rfl|false=>exact absurd hb hn
  simpa [Ls] using this
 have si:∀ n:Int,¬ (CB n=false) → -2147483648≤n∧n<2147483648:=fun n hn=>by
  have:CB n=true:=by cases hb:CB n with|true=>rfl|false=>exact absurd hb hn
  exact UY this
 unfold DU at h0
 rw [if_neg (by rw [hu];decide)] at h0
 by_cases c1:¬ (0≤x.dst∧x.dst<is.length)
 ·rw [if_pos c1] at h0;cases h0
 rw [if_neg c1] at h0
 by_cases c2:(Cz x.op).1=true∧¬ (0≤x.a∧x.a<(if x.op=0 then (ps.length:Int) else is.length))
 ·rw [if_pos c2] at h0;cases h0
 rw [if_neg c2] at h0
 by_cases c3:(Cz x.op).2.1=true∧¬ (0≤x.b∧x.b<is.length)
 ·rw [if_pos c3] at h0;cases h0
 rw [if_neg c3] at h0
 by_cases c4:(Cz x.op).2.2.1=true∧Ls x.sa=false
 ·rw [if_pos c4] at h0;cases h0
 rw [if_neg c4] at h0
 by_cases c5:(Cz x.op).2.2.2.1=true∧Ls x.sb=false
 ·rw [if_pos c5] at h0;cases h0
 rw [if_neg c5] at h0
 by_cases c6:(Cz x.op).2.2.2.2.1=true∧CB x.imm=false
 ·rw [if_pos c6] at h0;cases h0
 have c1':=Classical.not_not.1 c1
 refine ⟨hop,c1'.1,c1'.2,fun h1=>?_,fun h1=>?_,fun h1=>?_⟩
 ·have ua:(Cz x.op).1=true∧(Cz x.op).2.2.1=true:=by rcases hop with h|h|h|h|h|h|h|h|h|h|h <;> first|exact absurd h h1|(rw [h];exact ⟨rfl,rfl⟩)
  have ha:0≤x.a∧x.a<(if x.op=0 then (ps.length:Int) else is.length):=bz fun hn=>c2 ⟨ua.1,hn⟩
  have hs:=sh x.sa fun hn=>c4 ⟨ua.2,hn⟩
  exact ⟨ha.1,ha.2,hs.1,hs.2⟩
 ·have ub:(Cz x.op).2.1=true:=by rcases h1 with h|h|h|h|h <;> (rw [h];rfl)
  have hb:0≤x.b∧x.b<is.length:=bz fun hn=>c3 ⟨ub,hn⟩
  refine ⟨hb.1,hb.2,fun h7=>sh x.sb fun hn=>c5 ⟨?_,hn⟩⟩
  rcases h1 with h|h|h|h|h <;> first|exact absurd h h7|(rw [h];rfl)
 ·have ui:(Cz x.op).2.2.2.2.1=true:=by rcases h1 with h|h <;> (rw [h];rfl)
  exact si x.imm fun hn=>c6 ⟨ui,hn⟩
theorem IA (k:p') (h:Hd9 p'→p:=by with_reducible first|(intro Z9;refine Tx 26 ?_;refine gO xEq <| gO xA ?_;exact Z9.o)|fail):p:=h ⟨k⟩
theorem Lu (k:p') (h:Hd9 p'→p:=by with_reducible first|(intro Z9;refine Tx 28 ?_;refine gO xEq <| gO xA ?_;exact Z9.o)|fail):p:=h ⟨k⟩
theorem Tt (h:p:=by first|exact xNt|exact xNg):p:=h
theorem Alu (k:p') (h:Hd9 p'→p:=by with_reducible first|(intro Z9;refine Tx 49 ?_;refine gO xM <| gO (xCl func55 (SH.cv)) <| gO Tt ?_;exact Z9.o)|(intro Z9;refine Tx 52 ?_;refine gO xF <| gO xD <| gO xF <| gO xD <| gO xM <| gO (by exact FF (i:=x.dst.toNat) rfl rfl rfl rfl (by omega) Aa (by omega) (by decide)) <| gZ (by first|exact Ov rfl rfl rfl rfl Al tl st|exact xS1 Al|exact xSk Al) ?_;exact Z9.o)|(intro Z9;refine Tx 53 ?_;refine gO xAd <| gO xM ?_;exact Z9.o)|fail):p:=h ⟨k⟩
theorem Alv (h:p:=by
 refine ⟨_,_,Bz 4 (hH:=by rw [hO2];rfl),_,?_,k+1,by omega,rfl,rfl,rfl⟩
 ·omega):p:=h
theorem Alw (h:p:=by
 refine ⟨_,_,Bz 2,_,?_,k+1,by omega,rfl,rfl,rfl⟩
 ·omega):p:=h
theorem Lv (h:p:=by first|exact FF (i:=x.a.toNat) rfl rfl rfl rfl (by omega) Aa (by omega) (by decide)|exact FF (i:=x.b.toNat) rfl rfl rfl rfl (by omega) Aa (by omega) (by decide)):p:=h
theorem Alx (h:p:=by first|exact xIr Aa (AF ho)|exact FF (i:=o.toNat) rfl rfl rfl rfl (by omega) Aa (by omega) (by decide)):p:=h
theorem Aly (h:p:=by first|exact Pb rfl rfl rfl hm|exact Pb rfl rfl rfl (by omega)):p:=h
theorem OJ (h:p:=by first|exact xCl func56 (SA.cv)|exact xCl func56 (SB.cv)):p:=h
theorem Lw (h:p:=by first|exact xLi hw Al|exact xLi hy Al|exact xLd Al):p:=h
theorem Tu (h:p:=by first|exact xLi hw Al|exact xLd Al):p:=h
theorem AtB (t u v:Bool) {ps:List Prt} {is:List Int} {xs:List Ins} {os cs inn:List Int} (hp:Cr ps is xs os=0) (hcl:cs.length=is.length) (hs:∀ z∈cs,CB z=true) (hil:inn.length=ps.length) (hr:∀ (k:Nat) (p:Prt) (z:Int),ps[k]?=some p→inn[k]?=some z→p.lo≤z∧z≤p.hi) :
  CV prog An 19 [AfH t ps is xs os,.one (AM u cs),.one (AM v inn)] [.agg [AM false (Om inn xs cs).1,AM false (Mc (Om inn xs cs).1 os),.val (.bool (Om inn xs cs).2)],aE 0]:=by
 refine cvz func19 ntmps19 ?_
 obtain ⟨hp1,hi1,hx1,ho1⟩:=Vb hp
 have CK:=AaS t (lT hp1 (by decide)) (lT hi1 (by decide)) (lT hx1 (by decide)) (lT ho1 (by decide)) hp
 repeat' (with_reducible first|refine qq ?_|(refine Tx 0 ?_;refine gN xBo <| gN (xAl ND) <| gO xA ?_)|(refine Tx 1 ?_;refine gO xL <| gO (xCl func54 (CK)) <| gO xA ?_)|(refine Tx 2 ?_;refine gO xM <| gO (xNE Ag) ?_)|(refine Tx 4 ?_;refine gO xM <| gO xN <| gO xF <| gO xD <| gO xN <| gO xNe ?_)|(refine Tx 6 ?_;refine gO xM <| gO xN <| gO xM ?_))
 refine AY (Bz 2) (Aq (fun n Fr H=>∃ k:Nat,k≤cs.length∧n=cs.length - k∧Fr=ofL [(1,vd (AM u cs)),(2,vd (AM v inn)),(3,vr 0),(6,vr 1),(33,vd (AM u cs)),(34,vi cs.length),(35,vi ((k:Nat)))]∧H=[.box 68 [.d (CU t ps),.d (AM t is),.d (Ahh t xs),.d (AM t os)],.box 74 [.d (.val (.slice none 0 0)),.d (.val (.slice none 0 0)),.d (.val (.bool false))]]) (n0:=cs.length) ⟨0,af _,rfl,rfl,rfl⟩ ?_)
 rintro n Fr H ⟨k,hk,rfl,rfl,rfl⟩
 by_cases hlt:k<cs.length
 case pos =>
  obtain ⟨z,hz⟩:∃ z,cs[k]?=some z:=⟨_,gE hlt⟩
  have SH:=Xy z
  rw [hs z (gM hz)] at SH
  repeat' (with_reducible first|refine qq ?_|(refine Tx 7 ?_;refine gO xLt ?_)|(refine Tx 8 ?_;refine gO (xIr Aa (AF hz)) <| gO xD <| gO xA ?_)|(refine Tx 9 ?_;refine gO xM <| gO (xCl func55 (SH.cv)) <| gO Tt ?_)|(refine Tx 11 ?_;refine gO xAd <| gO xM ?_))
  exact Alw
 repeat' (with_reducible first|refine qq ?_|(refine Tx 7 ?_;refine gO xLt ?_)|(refine Tx 12 ?_;refine gO xM <| gO xN <| gO xF <| gO xD <| gO xN <| gO xNe ?_)|(refine Tx 14 ?_;refine gO xM <| gO xN <| gO xM ?_))
 refine AY (Bz 2) (Aq (fun n Fr H=>∃ k:Nat,k≤inn.length∧n=inn.length - k∧Fr=ofL [(1,vd (AM u cs)),(2,vd (AM v inn)),(3,vr 0),(6,vr 1),(53,vd (AM v inn)),(54,vi inn.length),(55,vi ((k:Nat)))]∧H=[.box 68 [.d (CU t ps),.d (AM t is),.d (Ahh t xs),.d (AM t os)],.box 74 [.d (.val (.slice none 0 0)),.d (.val (.slice none 0 0)),.d (.val (.bool false))]]) (n0:=inn.length) ⟨0,af _,rfl,rfl,rfl⟩ ?_)
 clear hk
 rintro n Fr H ⟨k,hk,rfl,rfl,rfl⟩
 by_cases hlt:k<inn.length
 case pos =>
  obtain ⟨z,hz⟩:∃ z,inn[k]?=some z:=⟨_,gE hlt⟩
  obtain ⟨p,hp0⟩:∃ p,ps[k]?=some p:=⟨_,gE (by omega)⟩
  obtain ⟨hz1,hz2⟩:=hr k p z hp0 hz
  repeat' (with_reducible first|refine qq ?_|(refine Tx 15 ?_;refine gO xLt ?_)|(refine Tx 16 ?_;refine gO xM <| gO (xIr Aa (AF hz)) <| gO xD <| gO xA <| gO xA ?_)|(refine Tx 17 ?_;refine gO xM <| gO xF <| gO xD <| gO xM <| gO (xIr BG (Gz hp0)) <| gO xF <| gO xD <| gO xLt <| gO xM ?_;(first|iterate 8 refine Jd ?_|(refine Jy xM1 ?_;refine Jy (xFa Qp DF) ?_;refine Jy (xLd DF) ?_;refine Jy xM1 ?_;refine Jy (xIr BG (Gz hp0)) ?_;refine Jy (xFa IJ Al) ?_;refine Jy (xLd Al) ?_;refine Jy xGt ?_));refine gO xPk ?_)|(refine Tx 19 ?_;refine gO xAd <| gO xM ?_))
  exact Alw
 clear hk
 have hc1:cs.length≤1000000:=by omega
 repeat' (with_reducible first|refine qq ?_|(refine Tx 15 ?_;refine gO xLt ?_)|(refine Tx 20 ?_;refine gN (by first|exact EM (ps:=[]) (cs:=[]) rfl Aa BK (by decide) (by decide) rfl rfl rfl (by decide)|exact Qx rfl rfl Aa BK (by decide) (by decide) (by decide) rfl rfl rfl) <| gO xM <| gT (by exact Att rfl rfl rfl rfl Aa BK (by omega) (by decide) (by decide) (by simp) (cI_D cs).symm (ax _)) <| gO (by exact AH rfl Abx rfl rfl) <| gN (xAl ND) <| gZ (xSk Ea) ?_)|(refine Tx 21 ?_;refine gO xF <| gO xD <| gO xN <| gO xM ?_))
 refine AY (Bz 4) (Aq (fun n Fr H=>∃ k:Nat,k≤xs.length∧n=xs.length - k∧Fr=ofL [(2,vd (AM v inn)),(3,vr 0),(6,vr 1),(13,vr 3),(86,vd (Ahh t xs)),(87,vi xs.length),(88,vi ((k:Nat)))]∧H=[.box 68 [.d (CU t ps),.d (AM t is),.d (Ahh t xs),.d (AM t os)],.box 74 [.d (.val (.slice none 0 0)),.d (.val (.slice none 0 0)),.d (.val (.bool false))],.row 3 1 cs.length (cI (Om inn (xs.take (k)) cs).1),.box 74 [.own 2 cs.length,.d (.val (.slice none 0 0)),.d (.val (.bool (Om inn (xs.take (k)) cs).2))]]) (n0:=xs.length) ⟨0,af _,rfl,rfl,rfl⟩ ?_)
 rintro n Fr H ⟨k,hk,rfl,rfl,rfl⟩
 by_cases hlt:k<xs.length
 case pos =>
  obtain ⟨x,hx⟩:∃ x,xs[k]?=some x:=⟨_,gE hlt⟩
  obtain ⟨hop,hd0,hd1,hA,hB,hI⟩:=AgB hp hx
  have hst:=Agx (inn:=inn) (cs:=cs) hx
  have hCl:(Om inn (xs.take (k)) cs).1.length=cs.length:=AaT _ _ _
  have hCs:=AcA hs (inn:=inn) (xs:=xs.take k)
  generalize hC:(Om inn (xs.take (k)) cs).1=Z at hst hCl hCs ⊢
  generalize hO:(Om inn (xs.take (k)) cs).2=O at hst ⊢
  repeat' (with_reducible first|refine qq ?_|(refine Tx 22 ?_;refine gO xLt ?_)|(refine Tx 23 ?_;refine gO (xIr Bi (Akq hx)) <| gO xL <| gN (xAl Ca) <| gZ (xSk FE) ?_)|(refine Tx 24 ?_;refine gO xA ?_))
  with_reducible refine Tx 25 ?_
  with_reducible refine gO xF ?_
  with_reducible refine gO xD ?_
  with_reducible refine Je ?_
  refine qb ?_
  refine Apo (fun F' H'=>∃ V:Int,Ol x Z inn=V∧F'=ofL [(2,vd (AM v inn)),(3,vr 0),(6,vr 1),(13,vr 3),(15,vr 4),(16,vi V),(86,vd (Ahh t xs)),(87,vi xs.length),(88,vi ((k:Nat)))]∧H'=[.box 68 [.d (CU t ps),.d (AM t is),.d (Ahh t xs),.d (AM t os)],.box 74 [.d (.val (.slice none 0 0)),.d (.val (.slice none 0 0)),.d (.val (.bool false))],.row 3 1 cs.length (cI Z),.box 74 [.own 2 cs.length,.d (.val (.slice none 0 0)),.d (.val (.bool O))],.box 121 ((Vm x).map C.d)]) ?_ ?_
  ·
   rcases hop with h|h|h|h|h|h|h|h|h|h|h
   ·
    obtain ⟨ha0,ha1,hs0,hs1⟩:=hA (by omega)
    rw [if_pos h] at ha1
    obtain ⟨w,hw⟩:∃ w,inn[x.a.toNat]?=some w:=⟨_,gE (by omega)⟩
    have SA:=BR w hs0 hs1
    repeat' (with_reducible first|refine qq ?_|refine IA ?_|(refine BB (id:=27) AJ (by kernel_rfl) ?_;refine gP xM <| gP xF <| gP xD <| gP (xIr Aa (AF hw)) <| gP xD <| gP xF <| gP xD <| gP (xCl func56 (SA.cv)) <| gP xA ?_;refine Ke ?_))
    refine ⟨_,_,Bz 5,scl w x.sa,Avk h hw,rfl,rfl⟩
   ·
    repeat' (with_reducible first|refine qq ?_|refine IA ?_|refine Lu ?_|(refine Tx 29 ?_;refine gO xF <| gO xD <| gO xA ?_))
    refine ⟨_,_,Bz 5,x.imm,AjB h,rfl,rfl⟩
   ·
    obtain ⟨ha0,ha1,hs0,hs1⟩:=hA (by omega)
    rw [if_neg (by omega)] at ha1
    obtain ⟨w,hw⟩:∃ w,Z[x.a.toNat]?=some w:=⟨_,gE (by omega)⟩
    obtain ⟨w0,w1⟩:=hCs w (gM hw)
    have SA:=BR w hs0 hs1
    have b1:=Fm w0 w1 hs0 hs1
    repeat' (with_reducible first|refine qq ?_|refine IA ?_|refine Lu ?_|(refine Tx 30 ?_;refine gO xEq <| gO xA ?_)|(refine BB (id:=31) AJ (by kernel_rfl) ?_;refine gP xF <| gP xD <| gP xF <| gP xD <| gP (by exact FF (i:=x.a.toNat) rfl rfl rfl rfl (by omega) Aa (by omega) (by decide)) <| gP Tu <| gP xF <| gP xD <| gP (xCl func56 (SA.cv)) <| gP xA ?_;refine Ke ?_))
    refine ⟨_,_,Bz 5,(scl w x.sa),App h hw,rfl,rfl⟩
   ·
    obtain ⟨ha0,ha1,hs0,hs1⟩:=hA (by omega)
    rw [if_neg (by omega)] at ha1
    obtain ⟨w,hw⟩:∃ w,Z[x.a.toNat]?=some w:=⟨_,gE (by omega)⟩
    obtain ⟨w0,w1⟩:=hCs w (gM hw)
    obtain ⟨hb0,hb1,hbs⟩:=hB (by omega)
    obtain ⟨y,hy⟩:∃ y,Z[x.b.toNat]?=some y:=⟨_,gE (by omega)⟩
    obtain ⟨y0,y1⟩:=hCs y (gM hy)
    have SA:=BR w hs0 hs1
    have b1:=Fm w0 w1 hs0 hs1
    obtain ⟨hb2,hb3⟩:=hbs (by omega)
    have SB:=BR y hb2 hb3
    have b2:=Fm y0 y1 hb2 hb3
    repeat' (with_reducible first|refine qq ?_|refine IA ?_|refine Lu ?_|(refine Tx 30 ?_;refine gO xEq <| gO xA ?_)|(refine Tx 32 ?_;refine gO xEq <| gO xA ?_)|(refine BB (id:=33) AJ (by kernel_rfl) ?_;refine gP xF <| gP xD <| gP xF <| gP xD <| gP Lv <| gP Lw <| gP xF <| gP xD <| gP OJ <| gP xF <| gP xD <| gP xF <| gP xD <| gP Lv <| gP Lw <| gP xF <| gP xD <| gP OJ <| gP xAd <| gP xA ?_;refine Ke ?_))
    refine ⟨_,_,Bz 5,(scl w x.sa+scl y x.sb),Atu h hw hy,rfl,rfl⟩
   ·
    obtain ⟨ha0,ha1,hs0,hs1⟩:=hA (by omega)
    rw [if_neg (by omega)] at ha1
    obtain ⟨w,hw⟩:∃ w,Z[x.a.toNat]?=some w:=⟨_,gE (by omega)⟩
    obtain ⟨w0,w1⟩:=hCs w (gM hw)
    obtain ⟨hb0,hb1,hbs⟩:=hB (by omega)
    obtain ⟨y,hy⟩:∃ y,Z[x.b.toNat]?=some y:=⟨_,gE (by omega)⟩
    obtain ⟨y0,y1⟩:=hCs y (gM hy)
    have SA:=BR w hs0 hs1
    have b1:=Fm w0 w1 hs0 hs1
    obtain ⟨hb2,hb3⟩:=hbs (by omega)
    have SB:=BR y hb2 hb3
    have b2:=Fm y0 y1 hb2 hb3
    repeat' (with_reducible first|refine qq ?_|refine IA ?_|refine Lu ?_|(refine Tx 30 ?_;refine gO xEq <| gO xA ?_)|(refine Tx 32 ?_;refine gO xEq <| gO xA ?_)|(refine Tx 34 ?_;refine gO xEq <| gO xA ?_)|(refine BB (id:=35) AJ (by kernel_rfl) ?_;refine gP xF <| gP xD <| gP xF <| gP xD <| gP Lv <| gP Lw <| gP xF <| gP xD <| gP OJ <| gP xF <| gP xD <| gP xF <| gP xD <| gP Lv <| gP Lw <| gP xF <| gP xD <| gP OJ <| gP xSb <| gP xA ?_;refine Ke ?_))
    refine ⟨_,_,Bz 5,(scl w x.sa - scl y x.sb),Atv h hw hy,rfl,rfl⟩
   ·
    obtain ⟨ha0,ha1,hs0,hs1⟩:=hA (by omega)
    rw [if_neg (by omega)] at ha1
    obtain ⟨w,hw⟩:∃ w,Z[x.a.toNat]?=some w:=⟨_,gE (by omega)⟩
    obtain ⟨w0,w1⟩:=hCs w (gM hw)
    have SA:=BR w hs0 hs1
    have b1:=Fm w0 w1 hs0 hs1
    repeat' (with_reducible first|refine qq ?_|refine IA ?_|refine Lu ?_|(refine Tx 30 ?_;refine gO xEq <| gO xA ?_)|(refine Tx 32 ?_;refine gO xEq <| gO xA ?_)|(refine Tx 34 ?_;refine gO xEq <| gO xA ?_)|(refine Tx 36 ?_;refine gO xEq <| gO xA ?_)|(refine BB (id:=37) AJ (by kernel_rfl) ?_;refine gP xF <| gP xD <| gP xF <| gP xD <| gP (by exact FF (i:=x.a.toNat) rfl rfl rfl rfl (by omega) Aa (by omega) (by decide)) <| gP Tu <| gP xF <| gP xD <| gP (xCl func56 (SA.cv)) <| gP Tt <| gP xA ?_;refine Ke ?_))
    refine ⟨_,_,Bz 5,(-scl w x.sa),Atw h hw,rfl,rfl⟩
   ·
    obtain ⟨ha0,ha1,hs0,hs1⟩:=hA (by omega)
    rw [if_neg (by omega)] at ha1
    obtain ⟨w,hw⟩:∃ w,Z[x.a.toNat]?=some w:=⟨_,gE (by omega)⟩
    obtain ⟨w0,w1⟩:=hCs w (gM hw)
    obtain ⟨i0,i1⟩:=hI (.inr h)
    have hm:=Agz w0 w1 i0 i1
    have SA:=BR (w*x.imm) hs0 hs1
    repeat' (with_reducible first|refine qq ?_|refine IA ?_|refine Lu ?_|(refine Tx 30 ?_;refine gO xEq <| gO xA ?_)|(refine Tx 32 ?_;refine gO xEq <| gO xA ?_)|(refine Tx 34 ?_;refine gO xEq <| gO xA ?_)|(refine Tx 36 ?_;refine gO xEq <| gO xA ?_)|(refine Tx 38 ?_;refine gO xEq <| gO xA ?_)|(refine Tx 41 ?_;refine gO xEq <| gO xA ?_)|(refine BB (id:=42) AJ (by kernel_rfl) ?_;refine gP xF <| gP xD <| gP xF <| gP xD <| gP (by exact FF (i:=x.a.toNat) rfl rfl rfl rfl (by omega) Aa (by omega) (by decide)) <| gP Tu <| gP xF <| gP xD <| gP Aly <| gP xF <| gP xD <| gP (xCl func56 (SA.cv)) <| gP xA ?_;refine Ke ?_))
    refine ⟨_,_,Bz 5,scl (w*x.imm) x.sa,Apq h hw,rfl,rfl⟩
   ·
    obtain ⟨ha0,ha1,hs0,hs1⟩:=hA (by omega)
    rw [if_neg (by omega)] at ha1
    obtain ⟨w,hw⟩:∃ w,Z[x.a.toNat]?=some w:=⟨_,gE (by omega)⟩
    obtain ⟨w0,w1⟩:=hCs w (gM hw)
    obtain ⟨hb0,hb1,hbs⟩:=hB (by omega)
    obtain ⟨y,hy⟩:∃ y,Z[x.b.toNat]?=some y:=⟨_,gE (by omega)⟩
    obtain ⟨y0,y1⟩:=hCs y (gM hy)
    have hm:=Agz w0 w1 y0 y1
    have SA:=BR (w*y) hs0 hs1
    repeat' (with_reducible first|refine qq ?_|refine IA ?_|refine Lu ?_|(refine Tx 30 ?_;refine gO xEq <| gO xA ?_)|(refine Tx 32 ?_;refine gO xEq <| gO xA ?_)|(refine Tx 34 ?_;refine gO xEq <| gO xA ?_)|(refine Tx 36 ?_;refine gO xEq <| gO xA ?_)|(refine Tx 38 ?_;refine gO xEq <| gO xA ?_)|(refine Tx 41 ?_;refine gO xEq <| gO xA ?_)|(refine Tx 43 ?_;refine gO xEq <| gO xA ?_)|(refine BB (id:=44) AJ (by kernel_rfl) ?_;refine gP xF <| gP xD <| gP xF <| gP xD <| gP Lv <| gP Lw <| gP xF <| gP xD <| gP xF <| gP xD <| gP Lv <| gP Lw <| gP Aly <| gP xF <| gP xD <| gP (xCl func56 (SA.cv)) <| gP xA ?_;refine Ke ?_))
    refine ⟨_,_,Bz 5,scl (w*y) x.sa,Atx h hw hy,rfl,rfl⟩
   ·
    obtain ⟨ha0,ha1,hs0,hs1⟩:=hA (by omega)
    rw [if_neg (by omega)] at ha1
    obtain ⟨w,hw⟩:∃ w,Z[x.a.toNat]?=some w:=⟨_,gE (by omega)⟩
    obtain ⟨w0,w1⟩:=hCs w (gM hw)
    obtain ⟨hb0,hb1,hbs⟩:=hB (by omega)
    obtain ⟨y,hy⟩:∃ y,Z[x.b.toNat]?=some y:=⟨_,gE (by omega)⟩
    obtain ⟨y0,y1⟩:=hCs y (gM hy)
    have SA:=BR w hs0 hs1
    have b1:=Fm w0 w1 hs0 hs1
    obtain ⟨hb2,hb3⟩:=hbs (by omega)
    have SB:=BR y hb2 hb3
    have b2:=Fm y0 y1 hb2 hb3
    repeat' (with_reducible first|refine qq ?_|refine IA ?_|refine Lu ?_|(refine Tx 30 ?_;refine gO xEq <| gO xA ?_)|(refine Tx 32 ?_;refine gO xEq <| gO xA ?_)|(refine Tx 34 ?_;refine gO xEq <| gO xA ?_)|(refine Tx 36 ?_;refine gO xEq <| gO xA ?_)|(refine Tx 38 ?_;refine gO xEq <| gO xA ?_)|(refine Tx 41 ?_;refine gO xEq <| gO xA ?_)|(refine Tx 43 ?_;refine gO xEq <| gO xA ?_)|(refine Tx 45 ?_;refine gO xEq <| gO xA ?_)|(refine BB (id:=46) AJ (by kernel_rfl) ?_;refine gP xF <| gP xD <| gP xF <| gP xD <| gP Lv <| gP Lw <| gP xF <| gP xD <| gP OJ <| gP xF <| gP xD <| gP xF <| gP xD <| gP Lv <| gP Lw <| gP xF <| gP xD <| gP OJ <| gP (by exact Adx rfl rfl rfl) <| gP xA ?_;refine Ke ?_))
    refine ⟨_,_,Bz 5,(min (scl w x.sa) (scl y x.sb)),Aty h hw hy,rfl,rfl⟩
   ·
    obtain ⟨ha0,ha1,hs0,hs1⟩:=hA (by omega)
    rw [if_neg (by omega)] at ha1
    obtain ⟨w,hw⟩:∃ w,Z[x.a.toNat]?=some w:=⟨_,gE (by omega)⟩
    obtain ⟨w0,w1⟩:=hCs w (gM hw)
    obtain ⟨hb0,hb1,hbs⟩:=hB (by omega)
    obtain ⟨y,hy⟩:∃ y,Z[x.b.toNat]?=some y:=⟨_,gE (by omega)⟩
    obtain ⟨y0,y1⟩:=hCs y (gM hy)
    have SA:=BR w hs0 hs1
    have b1:=Fm w0 w1 hs0 hs1
    obtain ⟨hb2,hb3⟩:=hbs (by omega)
    have SB:=BR y hb2 hb3
    have b2:=Fm y0 y1 hb2 hb3
    repeat' (with_reducible first|refine qq ?_|refine IA ?_|refine Lu ?_|(refine Tx 30 ?_;refine gO xEq <| gO xA ?_)|(refine Tx 32 ?_;refine gO xEq <| gO xA ?_)|(refine Tx 34 ?_;refine gO xEq <| gO xA ?_)|(refine Tx 36 ?_;refine gO xEq <| gO xA ?_)|(refine Tx 38 ?_;refine gO xEq <| gO xA ?_)|(refine Tx 41 ?_;refine gO xEq <| gO xA ?_)|(refine Tx 43 ?_;refine gO xEq <| gO xA ?_)|(refine Tx 45 ?_;refine gO xEq <| gO xA ?_)|(refine Tx 47 ?_;refine gO xEq <| gO xA ?_)|(refine BB (id:=48) AJ (by kernel_rfl) ?_;refine gP xF <| gP xD <| gP xF <| gP xD <| gP Lv <| gP Lw <| gP xF <| gP xD <| gP OJ <| gP xF <| gP xD <| gP xF <| gP xD <| gP Lv <| gP Lw <| gP xF <| gP xD <| gP OJ <| gP (by exact FZ rfl rfl rfl) <| gP xA ?_;refine Ke ?_))
    refine ⟨_,_,Bz 5,(max (scl w x.sa) (scl y x.sb)),Atz h hw hy,rfl,rfl⟩
   ·
    obtain ⟨ha0,ha1,hs0,hs1⟩:=hA (by omega)
    rw [if_neg (by omega)] at ha1
    obtain ⟨w,hw⟩:∃ w,Z[x.a.toNat]?=some w:=⟨_,gE (by omega)⟩
    obtain ⟨w0,w1⟩:=hCs w (gM hw)
    have SA:=BR w hs0 hs1
    have b1:=Fm w0 w1 hs0 hs1
    repeat' (with_reducible first|refine qq ?_|refine IA ?_|refine Lu ?_|(refine Tx 30 ?_;refine gO xEq <| gO xA ?_)|(refine Tx 32 ?_;refine gO xEq <| gO xA ?_)|(refine Tx 34 ?_;refine gO xEq <| gO xA ?_)|(refine Tx 36 ?_;refine gO xEq <| gO xA ?_)|(refine Tx 38 ?_;refine gO xEq <| gO xA ?_)|(refine BB (id:=39) AJ (by kernel_rfl) ?_;refine gP xF <| gP xD <| gP xF <| gP xD <| gP (by exact FF (i:=x.a.toNat) rfl rfl rfl rfl (by omega) Aa (by omega) (by decide)) <| gP Tu <| gP xF <| gP xD <| gP (xCl func56 (SA.cv)) <| gP xA ?_;refine Ke ?_)|(refine Tx 40 ?_;refine gO xM <| gO xM <| gO Tt <| gO (by exact FZ rfl rfl rfl) <| gO xA ?_))
    refine ⟨_,_,Bz 5,(max (scl w x.sa) (-scl w x.sa)),AtA h hw,rfl,rfl⟩
  ·
   rintro F' H' ⟨V,hV,rfl,rfl⟩
   have SH:=Xy V
   rw [hV] at hst
   have tl:x.dst.toNat<Z.length:=by omega
   by_cases hsv:CB V=true
   case pos =>
    rw [hsv] at SH
    have st:Z.set x.dst.toNat V=(Om inn (xs.take (k+1)) cs).1:=by rw [hst,Aps hsv]
    have hO2:(Om inn (xs.take (k+1)) cs).2=O:=by rw [hst,hsv];simp
    repeat' (with_reducible first|refine qq ?_|refine Alu ?_)
    exact Alv
   case neg =>
    rw [ci] at hsv
    rw [hsv] at SH
    have st:Z.set x.dst.toNat (max (-2147483648) (min V 2147483647))=(Om inn (xs.take (k+1)) cs).1:=by rw [hst,show Apr V=max (-2147483648) (min V 2147483647) from rfl]
    have hO2:(Om inn (xs.take (k+1)) cs).2=true:=by rw [hst,hsv];simp
    repeat' (with_reducible first|refine qq ?_|refine Alu ?_|(refine Tx 50 ?_;refine gO xM <| gO (by exact Adx rfl rfl rfl) <| gO (by exact FZ rfl rfl rfl) <| gO xA ?_)|(refine Tx 51 ?_;refine gO xF <| gZ (by first|exact xS1 DE|exact xSk DE) ?_))
    exact Alv
 obtain rfl:k=xs.length:=by omega
 clear hlt hk
 rw [az]
 have hCl:(Om inn xs cs).1.length=cs.length:=AaT _ _ _
 generalize hC:(Om inn xs cs).1=Z at hCl ⊢
 generalize hO:(Om inn xs cs).2=O
 repeat' (with_reducible first|refine qq ?_|(refine Tx 22 ?_;refine gO xLt ?_)|(refine Tx 54 ?_;refine gO xF <| gO xD <| gO xN <| gO xM ?_))
 refine AY (Gq 3 1 3 1 rfl rfl) ?_
 refine AY (Bz 5) (Aq (fun n Fr H=>∃ k:Nat,k≤os.length∧n=os.length - k∧Fr=ofL [(3,vr 0),(6,vr 1),(13,vr 3),(277,vd (AM t os)),(278,vi os.length),(279,vi ((k:Nat)))]∧H=[.box 68 [.d (CU t ps),.d (AM t is),.d (Ahh t xs),.d (AM t os)],.box 74 [.d (.val (.slice none 0 0)),.d (.val (.slice none 0 0)),.d (.val (.bool false))],.row 3 1 cs.length (cI Z),.box 74 [.own 2 cs.length,.own 4 (Mc Z (os.take (k))).length,.d (.val (.bool O))],.row 3 1 (Mc Z (os.take (k))).length (cI (Mc Z (os.take (k))))]) (n0:=os.length) ⟨0,af _,rfl,rfl,rfl⟩ ?_)
 rintro n Fr H ⟨k,hk,rfl,rfl,rfl⟩
 by_cases hlt:k<os.length
 case pos =>
  obtain ⟨o,ho⟩:∃ o,os[k]?=some o:=⟨_,gE hlt⟩
  obtain ⟨o0,o2⟩:=AgA hp ho
  obtain ⟨w,hw⟩:∃ w,Z[o.toNat]?=some w:=⟨_,gE (by omega)⟩
  have hap:(Mc Z (os.take (k)))++[w]=(Mc Z (os.take (k+1))):=(AcB ho hw).symm
  have hap2:(Mc Z (os.take (k))).length+1=(Mc Z (os.take (k+1))).length:=by rw [←hap];simp
  have hol:(Mc Z (os.take (k))).length≤k:=Agy _ _ _
  repeat' (with_reducible first|refine qq ?_|(refine Tx 55 ?_;refine gO xLt ?_)|(refine Tx 56 ?_;refine gO Alx <| gO Tu <| gO xA ?_)|(refine AE (id:=57) 8 AJ (by kernel_rfl) ?_;dsimp only [List.take,List.drop];refine gP xF <| gP xD <| gP xF <| gP xD <| gP xM <| gP Alx <| gP Tu <| gQ (by exact AZ rfl Aa BK rfl rfl (by decide) (by decide)) ?_;refine Ke ?_;refine gT (by exact Qw rfl rfl rfl rfl rfl rfl Aa BK (by omega) (by decide) hap hap2) <| gO xF <| gZ (by first|exact xS1 Ax|exact xSk Ax) ?_)|(refine Tx 58 ?_;refine gO xAd <| gO xM ?_))
  refine ⟨_,_,Bz 5,_,?_,k+1,by omega,rfl,rfl,rfl⟩
  ·omega
 obtain rfl:k=os.length:=by omega
 clear hlt hk
 rw [az]
 repeat' (with_reducible first|refine qq ?_|(refine Tx 55 ?_;refine gO xLt ?_)|(refine Tx 59 ?_;refine gO xL <| gZ (xSk Ea) <| gO xA ?_))
 exact AN rfl (.cons_ (ZS rfl rfl Ea rfl rfl (AX rfl rfl (YV rfl rfl hCl.symm rfl) (AX rfl rfl (YV rfl rfl rfl rfl) (AX rfl rfl (Bp rfl (fun _=>.val _)) (BM rfl rfl))))) (.cons_ (Fv rfl rfl) .nil_))
theorem AjC (t:Bool) {ps:List Prt} {is:List Int} {xs:List Ins} {os:List Int} (hp:Cr ps is xs os=0):CV prog An 18 [AfH t ps is xs os] [.one (AM false is),aE 0]:=by
 refine cvz func18 ntmps18 ?_
 obtain ⟨hp1,hi1,hx1,ho1⟩:=Vb hp
 have CK:=AaS t (lT hp1 (by decide)) (lT hi1 (by decide)) (lT hx1 (by decide)) (lT ho1 (by decide)) hp
 have hc1:is.length≤1000000:=by omega
 repeat' (with_reducible first|refine qq ?_|(refine Tx 0 ?_;refine gN xBo <| gO xA <| gO xA ?_)|(refine Tx 1 ?_;refine gO xL <| gO (xCl func54 (CK)) <| gO xA ?_)|(refine Tx 2 ?_;refine gO xM <| gO (xNE Ag) ?_)|(refine Tx 4 ?_;refine gO (by exact Ql rfl Aa) <| gO xF <| gO xD <| gO (by exact Nv rfl rfl (.inl rfl) rfl (Xk _) Aa BK (hc1) (by decide) (by decide)) <| gO xA <| gO xA ?_))
 exact AN rfl (.cons_ (.tmp (.one (Bp rfl fun _=>ZQ _))) (.cons_ (Fv rfl rfl) .nil_))
section
variable (P:Program) (G:World→Prop) (ops:Array Oper) (I:List Ob→Prop)
def ChI:Nat→List Oper→Frm→List Ob→(Frm→List Ob→Prop)→Prop
 | _,[],F,H,K=>K F H
 | i,o::l,F,H,K=>o.guard=none∧((isW o=false∧∃ x,((∀ H',I H'→AU P G o F H' x [])∨(YG .any ops i=true∧AU P G o F H x []))∧ChI (i+1) l (F.put o.dst x) H K)∨(isW o=true∧∃ x H',TOk P G o F H x H'∧I H'∧ChI (i+1) l (F.put o.dst x) H' K))
end
section
variable {P:Program} {G:World→Prop} {ops:Array Oper} {I:List Ob→Prop}
theorem AtC (h:K F H):ChI P G ops I i [] F H K:=h
theorem OY {d:Tmp} {x:X} (h:∀ H',I H'→AU P G o F H' x []) (k:ChI P G ops I (i+1) l (F.put (some d) x) H K) (hg:o.guard=none:=by with_unfolding_all exact rfl) (hw:isW o=false:=by with_unfolding_all exact rfl) (hd:o.dst=some d:=by with_unfolding_all exact rfl):ChI P G ops I i (o::l) F H K :=
 ⟨hg,.inl ⟨hw,x,.inl h,by rw [congrArg (fun q=>F.put q x) hd];exact k⟩⟩
theorem Avl {H':List Ob} {d:Tmp} {x:X} (h:TOk P G o F H x H') (k:ChI P G ops I (i+1) l (F.put (some d) x) H' K) (hi:I H':=by with_unfolding_all exact ⟨_,_,_,rfl⟩) (hg:o.guard=none:=by with_unfolding_all exact rfl) (hw:isW o=true:=by with_unfolding_all exact rfl) (hd:o.dst=some d:=by with_unfolding_all exact rfl):ChI P G ops I i (o::l) F H K :=
 ⟨hg,.inr ⟨hw,x,H',h,hi,by rw [congrArg (fun q=>F.put q x) hd];exact k⟩⟩
theorem ChI.seq:∀ {l:List Oper} {n:Nat} {F:Frm} {H:List Ob} {K:Frm→List Ob→Prop},ChI P G ops I n l F H K →
  ∃ (Fs:Nat→Frm) (Hs:Nat→List Ob) (xs:Nat→X),Fs 0=F∧Hs 0=H∧K (Fs l.length) (Hs l.length)∧∀ (i:Nat) (o:Oper),l[i]?=some o→Fs (i+1)=(Fs i).put o.dst (xs i)∧o.guard=none ∧
   ((isW o=false∧Hs (i+1)=Hs i∧((∀ H',I H'→AU P G o (Fs i) H' (xs i) [])∨(YG .any ops (n+i)=true∧AU P G o (Fs i) (Hs i) (xs i) [])))∨(isW o=true∧TOk P G o (Fs i) (Hs i) (xs i) (Hs (i+1))∧I (Hs (i+1))))
 | [],n,F,H,K,h=>⟨fun _=>F,fun _=>H,fun _=>.any,rfl,rfl,h,fun i o hi=>by simp at hi⟩
 | o::l,n,F,H,K,⟨hg,h⟩=>by
  have key:∃ x H',((isW o=false∧H'=H∧((∀ H',I H'→AU P G o F H' x [])∨(YG .any ops n=true∧AU P G o F H x [])))∨(isW o=true∧TOk P G o F H x H'∧I H'))∧ChI P G ops I (n+1) l (F.put o.dst x) H' K:=by
   rcases h with ⟨h1,x,h2,h3⟩|⟨h1,x,H',h2,hi,h3⟩
   ·exact ⟨x,H,.inl ⟨h1,rfl,h2⟩,h3⟩
   ·exact ⟨x,H',.inr ⟨h1,h2,hi⟩,h3⟩
  obtain ⟨x,H',hx,hc⟩:=key
  obtain ⟨Fs,Hs,xs,h1,h2,h3,h4⟩:=ChI.seq hc
  refine ⟨fun i=>match i with|0=>F|i+1=>Fs i,fun i=>match i with|0=>H|i+1=>Hs i,fun i=>match i with|0=>x|i+1=>xs i,rfl,rfl,by simpa using h3,fun i o' hi=>?_⟩
  rcases i with _|i
  ·simp only [eb,Option.some.injEq] at hi
   subst hi
   refine ⟨h1,hg,?_⟩
   show (isW o=false∧Hs 0=H∧_)∨(isW o=true∧TOk P G o F H x (Hs 0)∧I (Hs 0))
   rw [h2]
   exact hx
  ·simp only [fi] at hi
   have:=h4 i o' hi
   rw [show n+1+i=n+(i+1) by omega] at this
   exact this
theorem Alz {Fs:Nat→Frm} {Hs:Nat→List Ob} {xs:Nat→X} (h0:I (Hs 0)) (hs:∀ (i:Nat) (o:Oper),ops[i]?=some o→Fs (i+1)=(Fs i).put o.dst (xs i)∧o.guard=none∧((isW o=false∧Hs (i+1)=Hs i∧((∀ H',I H'→AU P G o (Fs i) H' (xs i) [])∨(YG .any ops i=true∧AU P G o (Fs i) (Hs i) (xs i) [])))∨(isW o=true∧TOk P G o (Fs i) (Hs i) (xs i) (Hs (i+1))∧I (Hs (i+1))))):∀ p,p≤ops.size→I (Hs p)
 | 0,_=>h0
 | p+1,hp=>by
  have hx:ops[p]?=some (ops[p]'(by omega)):=ga _
  rcases (hs p _ hx).2.2 with ⟨_,h2,_⟩|⟨_,_,h2⟩
  ·rw [h2];exact Alz h0 hs p (by omega)
  ·exact h2
theorem AjD {b0 N:Nat} {w0:World} {S0:SD} (hG:∀ w',Below b0 w0 w'→G w') {Q:Exit→Act→World→Prop} (hC:OO .any ops=true) (hW:Afa .any ops=true) (hd:Mk N ops.toList=true)
  {Fs:Nat→Frm} {Hs:Nat→List Ob} {xs:Nat→X}
  (h0:I (Hs 0)) (hs:∀ (i:Nat) (o:Oper),ops[i]?=some o→Fs (i+1)=(Fs i).put o.dst (xs i)∧o.guard=none∧((isW o=false∧Hs (i+1)=Hs i∧((∀ H',I H'→AU P G o (Fs i) H' (xs i) [])∨(YG .any ops i=true∧AU P G o (Fs i) (Hs i) (xs i) [])))∨(isW o=true∧TOk P G o (Fs i) (Hs i) (xs i) (Hs (i+1))∧I (Hs (i+1)))))
  (hq:∀ a m,m.H=Hs ops.size→St b0 N w0 S0 (Fs ops.size) a m→Q .normal a m.w) :
  ∀ (f:Nat) (listed:Array Bool) (a:Act) (m:Mm),AiA b0 N w0 S0 ops Fs Hs listed a m→Abs listed≤f→wpAny P .any ops Q f listed a m.w:=by
 have opAt:∀ i,i<ops.size→∃ o,ops[i]?=some o:=fun i hi=>⟨_,ga hi⟩
 have keep:∀ t d i,i+d≤ops.size→(∀ (k:Nat) (o:Oper),i≤k→k<i+d→ops[k]?=some o→o.dst≠some t)→Fs (i+d) t=Fs i t:=fun t d=>by
  induction d with
  | zero=>intro i _ _;rfl
  | succ d ih =>
   intro i hi hk
   obtain ⟨o,ho⟩:=opAt (i+d) (by omega)
   rw [show i+(d+1)=i+d+1 by omega,(hs _ o ho).1,EH,if_neg (hk (i+d) o (by omega) (by omega) ho)]
   exact ih i (by omega) fun k o' h1 h2=>hk k o' h1 (by omega)
 have still:∀ d p,p+d≤ops.size→(∀ (k:Nat) (o:Oper),p≤k→k<p+d→ops[k]?=some o→isW o=false)→Hs (p+d)=Hs p:=fun d=>by
  induction d with
  | zero=>intro p _ _;rfl
  | succ d ih =>
   intro p hp hk
   obtain ⟨o,ho⟩:=opAt (p+d) (by omega)
   have hn:=hk (p+d) o (by omega) (by omega) ho
   rcases (hs _ o ho).2.2 with ⟨_,h2,_⟩|⟨h1,_⟩
   ·rw [show p+(d+1)=p+d+1 by omega,h2]
    exact ih p (by omega) fun k o' h1 h2=>hk k o' h1 (by omega)
   ·rw [hn] at h1;cases h1
 have look:∀ i o t,ops[i]?=some o→t∈o.looksAt ops→Fs ops.size t=Fs i t:=fun i o t ho ht=>by
  have hi:=(Array.getElem?_eq_some_iff.1 ho).1
  have:=keep t (ops.size - i) i (by omega) fun k o' h1 _ hk hdst=>by
   have:=((Cj hC ho).2 k o' t hk hdst).1 ht
   omega
  rwa [show i+(ops.size - i)=ops.size by omega] at this
 have out:∀ i o t,ops[i]?=some o→o.dst=some t→Fs ops.size t=xs i:=fun i o t ho ht=>by
  have hi:=(Array.getElem?_eq_some_iff.1 ho).1
  have:=keep t (ops.size - (i+1)) (i+1) (by omega) fun k o' h1 _ hk hdst=>((Cj hC ho).2 k o' t hk hdst).2 (by omega) ht
  rw [show i+1+(ops.size - (i+1))=ops.size by omega,(hs i o ho).1,EH,if_pos ht] at this
  exact this
 have fin:∀ (listed:Array Bool) (a:Act) (m:Mm),AiA b0 N w0 S0 ops Fs Hs listed a m→Region.ready .any ops listed=[]→Q .normal a m.w:=fun listed a m inv hr=>by
  have all:∀ i,i<ops.size→listed.getD i true=true:=by
   intro i
   induction i using Nat.strongRecOn with
   | _ i ih =>
    intro hi
    cases hl:listed.getD i true with
    | true=>rfl
    | false =>
     exfalso
     obtain ⟨o,ho⟩:=opAt i hi
     have:i∈Region.ready .any ops listed:=mem_ready.2 ⟨hl,o,ho,fun e he hb=>by
      have hlt:=(Cj hC ho).1 e he hb
      have:=ih e.on hlt (by omega)
      have hsz:=inv.ls
      rw [←CO (by omega)]
      exact this⟩
     rw [hr] at this
     cases this
  obtain ⟨p,hp,hpl,hH⟩:=inv.H
  have hfin:=still (ops.size - p) p (by omega) fun k o h1 h2 ho=>by
   cases hw:isW o with
   | false=>rfl
   | true =>
    have:=(hpl k o ho hw).2 (all k (Array.getElem?_eq_some_iff.1 ho).1)
    omega
  rw [show p+(ops.size - p)=ops.size by omega] at hfin
  refine hq a m (by rw [hH,hfin]) ⟨inv.cx,inv.tot,fun t=>inv.frame t fun i o ho hl=>?_,inv.size,inv.defers,inv.below,inv.base,inv.S,inv.T⟩
  have:=all i (Array.getElem?_eq_some_iff.1 ho).1
  rw [hl] at this
  cases this
 have next:∀ (listed:Array Bool) (i:Nat) (a:Act) (m:Mm),AiA b0 N w0 S0 ops Fs Hs listed a m→i∈Region.ready .any ops listed→∀ K:Act→World→Prop,
   (∀ a' m',AiA b0 N w0 S0 ops Fs Hs (listed.setIfInBounds i true) a' m'→K a' m'.w)→wpOp P ops Q i K a m.w:=fun listed i a m inv hr K hK=>by
  obtain ⟨hun,o,ho,hall⟩:=mem_ready.1 hr
  have hi:=(Array.getElem?_eq_some_iff.1 ho).1
  have hd0:∀ d,o.dst=some d→d<N:=Nq hd (by simpa using jx ho)
  have getSet:∀ j,j≠i→(listed.setIfInBounds i true).getD j true=listed.getD j true:=fun j hj=>getD_set_ne true (Ne.symm hj)
  have getSame:(listed.setIfInBounds i true).getD i true=true:=by simp [Array.getD,inv.ls,hi]
  have hlook:∀ t∈o.looksAt ops,Ey m (Fs i t) (a.tmps.getD t undef):=fun t ht=>by
   rw [←look i o t ho ht]
   refine inv.frame t fun k ok hok hkl hdst=>?_
   obtain ⟨h1,e,he,hb,hon⟩:=((Cj hC ho).2 k ok t hok hdst).1 ht
   have h2:=hall e he hb
   rw [hon] at h2
   have hsz:=inv.ls
   rw [←CO (by have:=(Array.getElem?_eq_some_iff.1 hok).1;omega),hkl] at h2
   cases h2
  have reFrame:∀ (m':Mm) (v:Value),Le m m'→Ey m' (xs i) v→∀ t,(∀ (k:Nat) (ok:Oper),ops[k]?=some ok→(listed.setIfInBounds i true).getD k true=false→ok.dst≠some t)→Ey m' (Fs ops.size t) ((a.put o.dst v).tmps.getD t undef):=fun m' v hle hv t ht=>by
   rw [IH inv.size hd0]
   split
   ·rename_i hdst
    rw [out i o t ho hdst]
    exact hv
   ·rename_i hdst
    refine (inv.frame t fun k ok hok hkl=>?_).le hle
    by_cases hki:k=i
    ·subst hki
     rw [ho] at hok
     cases hok
     exact hdst
    ·exact ht k ok hok (by rw [getSet k hki];exact hkl)
  obtain ⟨p,hp,hpl,hH⟩:=inv.H
  obtain ⟨hF,hgd,hcase⟩:=hs i o ho
  unfold wpOp
  simp only [ho]
  have hw:Cu ops o (Fs i) true:=by unfold Cu;rw [hgd]
  rw [if_pos (hw.is (m:=m) (tmps:=a.tmps) hlook)]
  have hdep:∀ (j:Nat) (oj:Oper),ops[j]?=some oj→(listed.setIfInBounds i true).getD j true=true→∀ e∈oj.after,Region.binds .any e=true→(listed.setIfInBounds i true).getD e.on true=true:=fun j oj hj hl e he hb=>by
   have h1:listed.getD e.on true=true:=by
    by_cases hji:j=i
    ·subst hji
     rw [ho] at hj
     cases hj
     have h3:=hall e he hb
     have h4:=(Cj hC ho).1 e he hb
     rw [CO (by have:=inv.ls;omega)]
     exact h3
    ·exact inv.dep j oj hj (by rw [←getSet j hji];exact hl) e he hb
   by_cases hei:e.on=i
   ·rw [hei];exact getSame
   ·rw [getSet _ hei];exact h1
  have go:∀ (H1 H2:List Ob),m.H=H1→(∃ p,p≤ops.size∧(∀ (j:Nat) (oj:Oper),ops[j]?=some oj→isW oj=true→(j<p ↔ (listed.setIfInBounds i true).getD j true=true))∧H2=Hs p)→TOk P G o (Fs i) H1 (xs i) H2→(o.wp P a m.w K Q):=fun H1 H2 e1 ⟨q,q1,q2,q3⟩ ht=>by
   refine ht b0 m a e1 inv.cx inv.tot (hG _ inv.below) (lT inv.base inv.below.size) (fun t ht=>hlook t (Hr ht)) _ _ fun v m' hH hx ht' hle hb hS hv=>?_
   exact hK _ m' ⟨⟨q,q1,q2,by rw [hH,q3]⟩,hx,ht',reFrame m' v hle hv,by rw [DB];exact inv.size,by rw [Cg];exact inv.defers,inv.below.trans hb,inv.base,fun b hb'=>(hS b hb').elim (inv.S b) .inr,hle.T.trans inv.T,by simp [inv.ls],hdep⟩
  refine .inl ?_
  have earlier:(∀ (j:Nat) (oj:Oper),ops[j]?=some oj→isW oj=true→j<i→(∃ e∈o.after,Region.binds .any e=true∧e.on=j)∨∃ k ok,j<k∧k<i∧ops[k]?=some ok∧isW ok=true)→∀ d (j:Nat) (oj:Oper),i - j≤d→j<i→ops[j]?=some oj→isW oj=true→listed.getD j true=true:=fun hX d=>by
   induction d with
   | zero=>intro j oj h1 h2;omega
   | succ d ih =>
    intro j oj h1 h2 hj hwj
    rcases hX j oj hj hwj h2 with ⟨e,he,hb,hon⟩|⟨k,ok,k1,k2,hk,hwk⟩
    ·have h3:=hall e he hb
     rw [hon] at h3
     rw [CO (by have:=inv.ls;omega)]
     exact h3
    ·have h3:=ih k ok (by omega) k2 hk hwk
     have h4:=(hpl k ok hk hwk).2 h3
     exact (hpl j oj hj hwj).1 (by omega)
  have stage:(∀ (j:Nat) (oj:Oper),ops[j]?=some oj→isW oj=true→j<i→listed.getD j true=true)→(∀ (j:Nat) (oj:Oper),ops[j]?=some oj→isW oj=true→i<j→listed.getD j true=false)→(∀ oj,ops[i]?=some oj→isW oj=true→p≤i)→Hs i=Hs p:=fun h1 h2 h3=>by
   rcases Nat.le_total p i with hpi|hpi
   ·have:=still (i - p) p (by omega) fun k ok k1 k2 hk=>by
     cases hwk:isW ok with
     | false=>rfl
     | true =>
      have:=(hpl k ok hk hwk).2 (h1 k ok hk hwk (by omega))
      omega
    rwa [show p+(i - p)=i by omega] at this
   ·have:=still (p - i) i (by omega) fun k ok k1 k2 hk=>by
     cases hwk:isW ok with
     | false=>rfl
     | true =>
      by_cases hki:k=i
      ·subst hki
       have:=h3 ok hk hwk
       omega
      ·have h4:=h2 k ok hk hwk (by omega)
       have h5:=(hpl k ok hk hwk).1 (by omega)
       rw [h4] at h5
       cases h5
    rw [show i+(p - i)=p by omega] at this
    exact this.symm
  rcases hcase with ⟨hn,_,h1⟩|⟨hn,h1,_⟩
  ·refine go m.H m.H rfl ⟨p,hp,fun j oj hj hwj=>?_,hH⟩ ?_
   ·by_cases hji:j=i
    ·subst hji
     rw [ho] at hj
     cases hj
     rw [hn] at hwj
     cases hwj
    ·rw [getSet j hji];exact hpl j oj hj hwj
   ·rcases h1 with h1|⟨hwt,h1⟩
    ·exact (h1 m.H (by rw [hH];exact Alz h0 hs p hp)).tok0
    ·have e:Hs i=Hs p:=stage (fun j oj hj hwj hlt=>earlier (fun j oj hj hwj hlt=>(Aag hwt ho hj hwj).2 hlt) i j oj (by omega) hlt hj hwj) (fun j oj hj hwj hlt=>by
      cases hl:listed.getD j true with
      | false=>rfl
      | true =>
       exfalso
       have key:∀ d (k:Nat) (ok:Oper),k - i≤d→i<k→ops[k]?=some ok→isW ok=true→listed.getD k true=true→False:=fun d=>by
        induction d with
        | zero=>intro k ok k1 k2;omega
        | succ d ih =>
         intro k ok k1 k2 hk hwk hlk
         rcases (Aag hwt ho hk hwk).1 k2 with ⟨e,he,hb,hon⟩|⟨q,oq,q1,q2,hq2,hwq⟩
         ·have h3:=inv.dep k ok hk hlk e he hb
          rcases hon with hon|⟨om,e2,m1,m2,m3,m4⟩
          ·rw [hon,hun] at h3
           cases h3
          ·have h4:=inv.dep e.on om m1 h3 e2 m2 m3
           rw [m4,hun] at h4
           cases h4
         ·have h4:=(hpl k ok hk hwk).2 hlk
          exact ih q oq (by omega) q1 hq2 hwq ((hpl q oq hq2 hwq).1 (by omega))
       exact key (j - i) j oj (aa _) hlt hj hwj hl) (fun oj hj hwj=>by rw [ho] at hj;cases hj;rw [hn] at hwj;cases hwj)
     rw [hH,←e]
     exact h1.tok0
  ·have earl:=earlier fun j oj hj hwj hlt=>Afb hW ho hj hn hwj hlt
   have hpi:p≤i:=Nat.not_lt.1 fun h=>by
    have:=(hpl i o ho hn).1 h
    rw [hun] at this
    cases this
   have hHi:Hs i=Hs p:=stage (fun j oj hj hwj hlt=>earl i j oj (by omega) hlt hj hwj) (fun j oj hj hwj hlt=>by
    cases hl:listed.getD j true with
    | false=>rfl
    | true=>have:=(hpl j oj hj hwj).2 hl;omega) (fun _ _ _=>hpi)
   refine go (Hs i) (Hs (i+1)) (by rw [hH,hHi]) ⟨i+1,by omega,fun j oj hj hwj=>?_,rfl⟩ h1
   by_cases hji:j=i
   ·subst hji
    rw [getSame]
    exact ⟨fun _=>rfl,fun _=>by omega⟩
   ·rw [getSet j hji]
    refine ⟨fun h=>earl i j oj (by omega) (by omega) hj hwj,fun h=>?_⟩
    have:=(hpl j oj hj hwj).2 h
    omega
 intro f
 induction f with
 | zero =>
  intro listed a m inv hc
  have hr:Region.ready .any ops listed=[]:=by
   cases hr:Region.ready .any ops listed with
   | nil=>rfl
   | cons i r =>
    have h1:=(mem_ready.1 (show i∈Region.ready .any ops listed by rw [hr];simp)).1
    have:=Fz h1
    omega
  exact ⟨hr,fin listed a m inv hr⟩
 | succ f ih =>
  intro listed a m inv hc
  refine ⟨fun hr=>fin listed a m inv hr,fun i hi=>next listed i a m inv hi _ fun a' m' inv'=>ih _ a' m' inv' ?_⟩
  have:=Fz (mem_ready.1 hi).1
  omega
end
section
variable {P:Program} {G:World→Prop} {N:Nat} {F:Frm} {H:List Ob} {Q:Sg}
theorem Avm (hG:∀ w w',Below w.heap.size w w'→G w→G w') (n:Nat) (I:List Ob→Prop) (hI:I H) (hm:P.follows .mixedOrders=true) (hB:(Mk N l && OO .any (l.take n).toArray && Afa .any (l.take n).toArray && Ly .any l.toArray n)=true)
  (h:ChI P G (l.take n).toArray I 0 (l.take n) F H fun F' H'=>Ti P G l.toArray (l.drop n) F' H' (Q .normal)):CW P G N (.region id l.toArray true) F H Q:=fun b0 w0 S0 a m hG hH hs=>by
 subst hH
 simp only [aj] at hB
 obtain ⟨⟨⟨hd,hC⟩,hW⟩,hp⟩:=hB
 have hd1:Mk N (l.take n)=true:=List.all_eq_true.2 fun o ho=>List.all_eq_true.1 hd o (eh ho)
 have hd2:Mk N (l.drop n)=true:=List.all_eq_true.2 fun o ho=>List.all_eq_true.1 hd o (jv ho)
 have hn:n<l.length:=by
  have:=hp
  simp only [Ly,aj,decide_eq_true_eq,jy] at this
  exact this.1.1.1.1
 have hln:(l.take n).length=n:=by simp;omega
 have hsz:(l.take n).toArray.size=n:=by simp;omega
 refine FX n hm hp ?_
 obtain ⟨Fs,Hs,xs,h1,h2,hTi,h4⟩:=h.seq
 rw [hln] at hTi
 have hs':=hs.drew
 refine AjD (G:=G) (w0:=w0) (S0:=S0) (b0:=b0) hG hC hW (N:=N) (by simpa using hd1) (Fs:=Fs) (Hs:=Hs) (xs:=xs) (I:=I) (by rw [h2];exact hI) (fun i o' hi=>by have:=h4 i o' (by simpa using hi);rw [ax] at this;exact this) (fun a' m' hH' hst=>?_) n (Array.replicate n false) a { m with w:=m.w.drew } ?_ (by simp [Abs])
 ·rw [hsz] at hst hH'
  rw [←hH'] at hTi
  exact XT hG (l.drop n) (Fs n) a' m' (Q .normal) hd2 hst hTi fun F'' a'' m'' k1 k2=>⟨F'',m'',rfl,k1,k2⟩
 ·refine ⟨⟨0,af _,fun i o hi _=>?_,h2.symm⟩,hs'.cx,hs'.tot,fun t ht=>?_,hs'.size,hs'.defers,hs'.below,hs'.base,hs'.S,hs'.T,by simp;omega,fun i o hi hl=>?_⟩
  ·have hlt:=(Array.getElem?_eq_some_iff.1 hi).1
   rw [hsz] at hlt
   simp [Array.getD,hlt]
  ·rw [hsz]
   have hno:∀ (i:Nat) (o':Oper),(l.take n)[i]?=some o'→o'.dst≠some t:=fun i o' hi=>by
    have hlt:=(gS.1 hi).1
    rw [hln] at hlt
    exact ht i o' (by simpa using hi) (by simp [Array.getD,hlt])
   have ka:∀ k,k≤n→Fs k t=F t:=fun k hk=>by
    induction k with
    | zero=>rw [h1]
    | succ k ih =>
     have hk2:(l.take n)[k]?=some ((l.take n)[k]'(by omega)):=gE _
     rw [(h4 k _ hk2).1,EH,if_neg (hno k _ hk2)]
     exact ih (by omega)
   rw [ka n (aa _)]
   exact hs'.frame t
  ·have hlt:=(Array.getElem?_eq_some_iff.1 hi).1
   rw [hsz] at hlt
   simp [Array.getD,hlt] at hl
theorem Zf {t:TypeId} {x y:Operand} {n:Nat} {tg:Bool} {z:Value} {cs cs2:List C} {ds:List D} (ho:o.op=.call { callee:=.builtin .append,args:=#[x,y],argTypes:=#[t,t] }) (hx:F.ev x=.one (.own id n)) (hH:H[id]?=some (.row e s n cs)) (hy:F.ev y=.one (.d (.row tg s 1 ds))) (ht:TyS P t e s) (hz:TyZ P e z s by_) (hn:n+1≤100000000000) (hl:Nat.beq ds.length s=true) (hys:cs++ds.map C.d=cs2) (hby:by_≤1000:=by decide) (h0:0<s:=by decide):TOk P G o F H (.one (.own id (n+1))) (H.set id (.row e s (n+1) cs2)):=by
 subst hys
 exact Mo ho hx hH hy .row ht hz hn h0 hby (by have:=di hl;simp [this])
theorem Rx {t:TypeId} {x:Operand} {z:Value} {ds:List D} (ho:o.op=.buildSlice t 1 #[(0,x)]) (hx:F.ev x=.agg (ds.map C.d)) (ht:TyS P t e s) (hz:TyZ P e z s by_) (hl:Nat.beq ds.length s=true) (hs:s≤1000) (h0:0<s):AU P G o F H (.one (.d (.row false s 1 ds))) []:=by
 intro b0 m a hp hcx hg hb0 _ hor K Q hK
 have hl:=di hl
 have hv:Ey m (.agg (ds.map C.d)) (a.eval x):=by
  have:=AV (F:=F) hor (x:=x) (by rw [ho];simp [Op.operands])
  rw [hx] at this
  exact this
 obtain ⟨xs,he,hr⟩:=hv
 have hr1:AP (fun d v=>DP m (C.d d) v) ds xs:=AP.map_l.1 hr
 have hr2:AP (Ba m.w m.S) ds xs:=hr1
 have hxl:xs.length=s:=by rw [←hr2.1];exact hl
 obtain ⟨i,hi,hi2⟩:=Option.map_eq_some_iff.1 hz.h
 simp only [Prod.mk.injEq] at hi2
 have hlm:(madeCells z.cells (1*s)).toList.length=s:=by simp [madeCells]
 have hfill:Instr.fill (fun i=>some (i*s,s)) (madeCells z.cells (1*s)) ((#[(0,x)]:Array (Nat × Operand)).map fun p=>(p.1,a.eval p.2)).toList=some xs.toArray:=by
  rw [Qd]
  have e1:(((#[(0,x)]:Array (Nat × Operand)).map fun p=>(p.1,a.eval p.2)).toList.map fun p=>(p.1,p.2.cells.toList))=[(0,xs)]:=by simp [he,Value.cells]
  rw [e1]
  unfold Fu
  simp only [ep,ax,hxl,hlm,Fu]
  rw [fu (dp hlm)]
  have hb:Nat.ble s s=true:=Nat.ble_eq_true_of_le (aa _)
  simp [hb]
 have hrun:=run_buildSlice (P:=P) m.w t e 1 ((#[(0,x)]:Array (Nat × Operand)).map fun p=>(p.1,a.eval p.2)) xs.toArray i z ht.h hi hi2.1 (by rw [hi2.2.1];omega) (by rw [hi2.2.1];omega) (by rw [hi2.2.1];exact hfill)
 have hexec:(execOp a.eval o).run P m.w=.ok (.value (.slice (some ⟨m.w.heap.size,0,none⟩) 1 1)) (m.w.alloc (.cells xs.toArray e)):=by
  unfold execOp
  simp only [ho]
  rw [ai,hrun]
  rfl
 have hbel:Below m.w.heap.size m.w (m.w.alloc (.cells xs.toArray e)):=(ah _ _).alloc (aa _) _
 have hle:=GL (es:=[]) (n:=H.length) hbel hcx.lt (fun k hk=>absurd hk (fm _))
 unfold Oper.wp
 rw [hexec]
 refine hK _ _ [] ⟨rfl,hbel,fun k e hk=>by simp at hk,List.Pairwise.nil⟩ ?_
 refine Ba.row xs (aa _) (fun h=>by cases h) (by rw [hl];omega) hr2.1 (fun _=>⟨_,0,rfl,.inr ⟨rfl,aa _,(Array.getElem?_eq_some_iff.1 (heap_alloc_new m.w _)).1,fun e he=>by simp at he⟩,fun j v hj=>?_⟩) fun j u v hu hw=>?_
 ·show (m.w.alloc (.cells xs.toArray e)).cell? ⟨m.w.heap.size,0+j,none⟩=some v
  rw [ax,cell_of_row _ _ j _ _ (0,0) (heap_alloc_new m.w _)]
  simpa using hj
 ·exact Ba.le hle (hr2.2 j u v hu hw)
end
def hP:List Prt:=[⟨-100,100,0⟩]
def hB:List Bk:=[⟨0,none,[0],0,0,0,0,0⟩,⟨6,none,[0],0,1,-1,0,0⟩]
def hO:List Int:=[1]
def hF:List Int:=[23,24]
def hC:Ct:=⟨hF,[((-100,0),(100,0)),((-50,0),(50,0))],[(0,0),(0,0)]⟩
theorem AtD:EF hP hB hO:=⟨by decide,by decide,by decide,by decide⟩
theorem Avn:Av hP hB hO=0:=by decide +kernel
theorem Avo:Xi hP hB 2 5=some (0,[]):=by kernel_rfl
theorem h_mk:mkC hP hB hO 0 []=some hC:=by kernel_rfl
theorem Avp:Ahi hB []:=⟨by decide +kernel,fun a h=>(by cases h),fun a h=>(by cases h),fun k hk=>absurd hk (by rw [show (AW hB).length=0 by decide +kernel];exact fm k)⟩
theorem AtE:Gg hP hB []=false∧Asz hP hB []=true:=by decide +kernel
theorem h_cp:RJ hP hB hO hF=0:=by decide +kernel
theorem AlA:Cr hP (NT hB hF) (Ge hP hB hF) hO=0:=by decide +kernel
theorem AtF:Om [6] (Ge hP hB hF) (NT hB hF)=([50331648,50331648],false)∧Mc [50331648,50331648] hO=[50331648]:=by decide +kernel
theorem AtG:(∀ z∈NT hB hF,CB z=true):=by decide +kernel
theorem AlB (h:p:=by first|exact (by with_unfolding_all exact eqT rfl rfl rfl rfl)|exact xEq):p:=h
theorem Ry  : CV prog An 5 [] [aB true]:=by
 refine cvz func5 ntmps5 ?_
 have MK:=Aco true AtD Avn 2 (by decide) (by decide) (f:=5) (by decide) Avo (.inl ⟨rfl,Avp,AtE⟩)
 rw [h_mk,show hB.length=2 from rfl] at MK
 have CP:=(Acr hP hB hO hF AtD (by decide))
 rw [h_cp,Xv rfl,Xv rfl,Xv rfl,Xv rfl] at CP
 have ST:=AjC false AlA
 have RU:=AtB false false true (cs:=NT hB hF) (inn:=[6]) AlA rfl AtG rfl (fun k p z h1 h2=>by
  rcases k with _|k
  ·cases h1
   cases h2
   exact ⟨by decide,by decide⟩
  ·simp [hP] at h1)
 rw [AtF.1] at RU
 dsimp only at RU
 rw [AtF.2] at RU
 repeat' (with_reducible first|refine qq ?_|(refine Tx 0 ?_;refine gO xA ?_)|(refine Tx 1 ?_;refine gO (by exact AH rfl AmA rfl rfl) <| gN (by exact AZ rfl BG Qo rfl rfl (by decide) (by decide)) <| gN (by exact AZ rfl Aa BK rfl rfl (by decide) (by decide)) <| gO (by exact AH rfl ZA rfl rfl) <| gN (by exact AZ rfl Aa BK rfl rfl (by decide) (by decide)) <| gO (by exact AH rfl Qn rfl rfl) <| gO (by exact AH rfl ZA rfl rfl) <| gN (by exact HH rfl Ap Cw rfl rfl rfl rfl (by decide) (by decide)) <| gN (by exact AZ rfl Aa BK rfl rfl (by decide) (by decide)) <| gO (by exact AH rfl Abv rfl rfl) <| gN (xAl So) <| gZ (xSk DY) ?_)|(refine Tx 2 ?_;refine gO xL ?_;refine Jl (by exact UU rfl func12 (by kernel_rfl) (by with_unfolding_all exact rfl) MK (by with_unfolding_all first|((repeat' first|exact BM rfl rfl|refine AX rfl rfl ?_ ?_|refine FH rfl rfl ?_|refine Dt rfl rfl ?_|exact Bp rfl (fun h=>by cases h)|refine EI rfl rfl rfl ?_) <;> fail)|fail)) ?_;refine gO (by first|exact Age rfl rfl|exact ZD rfl rfl) <| gO (by first|exact AaL rfl rfl rfl|exact Es rfl rfl rfl) <| gO (by first|exact AaL rfl rfl rfl|exact xEx) <| gO (by first|exact AaL rfl rfl rfl|exact xEx) <| gN (xAl TK) <| gZ (xSk EB) <| gO xA <| gO xA ?_)|(refine Tx 3 ?_;refine gO xM <| gO (xNE Ag) <| gO xM ?_;(first|iterate 2 refine Jd ?_|(refine Jy xM1 ?_;refine Jy Tt ?_));refine gO xPk <| gO xM ?_;(first|iterate 4 refine Jd ?_|(refine Jy (xFa Ei Ax) ?_;refine Jy (xLd Ax) ?_;refine Jy (xLn Aa) ?_;refine Jy xNe ?_));refine gO xPk ?_)|(refine Tx 5 ?_;refine gO xL <| gO xF <| gO xD <| gO (xCl func17 CP (ha:=by with_unfolding_all first|((repeat' first|exact BM rfl rfl|refine AX rfl rfl ?_ ?_|refine FH rfl rfl ?_|refine Dt rfl rfl ?_|exact Bp rfl (fun h=>by cases h)|refine EI rfl rfl rfl ?_) <;> fail)|fail)) <| gO xMt <| gO (by exact Es rfl rfl rfl) <| gO xEx <| gN (xAl NC) <| gZ (xSk Bs) <| gO xA ?_)|(refine Tx 6 ?_;refine gO xM <| gO (xNE Ag) ?_)|(refine Tx 8 ?_;refine gO xL <| gO (xCl func18 (ST)) <| gO xMt <| gO xEx <| gO xEx <| gO xA <| gO xA ?_)|(refine Tx 9 ?_;refine gO xM <| gO (xNE Ag) ?_)|(refine Tx 11 ?_;refine gO xL <| gO xM <| gN (by exact AZ rfl Aa BK rfl rfl (by decide) (by decide)) <| gO (xCl func19 RU (ha:=by with_unfolding_all first|((repeat' first|exact BM rfl rfl|refine AX rfl rfl ?_ ?_|refine FH rfl rfl ?_|refine Dt rfl rfl ?_|exact Bp rfl (fun h=>by cases h)|refine EI rfl rfl rfl ?_) <;> fail)|fail)) <| gO xMt <| gO (by exact Es rfl rfl rfl) <| gO xEx <| gN (xAl ND) <| gZ (xSk Ea) <| gO xA ?_)|(refine BB (id:=12) AJ (by kernel_rfl) ?_;refine gP xM <| gP (by first|exact De rfl Ag rfl (Qu rfl)|exact De rfl Ag rfl (Qu (by first|rfl|omega))|exact De rfl Ag rfl (VY (by first|assumption|omega))|exact De rfl Ag rfl rfl) <| gP xM ?_;(first|iterate 3 refine Kd ?_|(refine Ky (xFa Qq DE) ?_;refine Ky (xLd DE) ?_;refine Ky Tt ?_));refine gP xPk <| gP xM ?_;(first|iterate 4 refine Kd ?_|(refine Ky (xFa LI Ax) ?_;refine Ky (xLd Ax) ?_;refine Ky (xLn Aa) ?_;refine Ky AlB ?_));refine gP xPk <| gP xM ?_;(first|iterate 5 refine Kd ?_|(refine Ky (xFa Ei Ax) ?_;refine Ky (xLd Ax) ?_;refine Ky (xIo (i:=1) Aa) ?_;refine Ky (xLd Al) ?_;refine Ky xGe ?_));refine gP xPk <| gP xM ?_;(first|iterate 5 refine Kd ?_|(refine Ky (xFa Ei Ax) ?_;refine Ky (xLd Ax) ?_;refine Ky (xIo (i:=1) Aa) ?_;refine Ky (xLd Al) ?_;refine Ky xLe ?_));refine gP xPk <| gP xM ?_;(first|iterate 10 refine Kd ?_|(refine Ky (xFa LI Ax) ?_;refine Ky (xLd Ax) ?_;refine Ky (by exact Sp (i:=0) (es:=[dI 50331648]) rfl rfl rfl rfl Aa (by decide) (by decide) rfl) ?_;refine Ky (xLd Al) ?_;refine Ky (xFa Ei Ax) ?_;refine Ky (xLd Ax) ?_;refine Ky (xIo (i:=1) Aa) ?_;refine Ky (xLd Al) ?_;refine Ky (by exact Aev (n:=24) (r:=50331648) rfl rfl rfl (by decide) (by decide)) ?_;refine Ky AlB ?_));refine gP xPk <| gP xA ?_;refine Ke ?_))
 exact AN rfl (.cons_ (GI rfl (rfl)) .nil_)
theorem AjE (l:List Int) (i:Nat) (x:Int):CR (l.set i x)=(CR l).set i (.int .i64 x):=by simp [CR,gj]
theorem Vc {l:List Int} {z:Int} (h:l[i]?=some z):(CR l)[i]?=some (.int .i64 z):=by simp [CR,h]
end Go.Proofs.YtjlkgfeepocjfaaGreatDoor
