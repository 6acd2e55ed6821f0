/- What the proofs of this claim share, part 19. No conditions. -/
import Derived.Test.YtjlkgfeepocjfaaGreatDoorMk18
import Derived.Test.YtjlkgfeepocjfaaGreatDoorMk17
import Derived.Test.YtjlkgfeepocjfaaGreatDoorMk15
import Derived.Test.YtjlkgfeepocjfaaGreatDoorMk16
import Derived.Test.YtjlkgfeepocjfaaGreatDoorMk12
import Derived.Test.YtjlkgfeepocjfaaGreatDoorMk9
import Derived.Test.YtjlkgfeepocjfaaGreatDoorMk11
import Derived.Test.YtjlkgfeepocjfaaGreatDoorMk10
import Derived.Test.YtjlkgfeepocjfaaGreatDoorMk14
import Derived.Laws.StructEq
set_option maxRecDepth 100000
set_option maxHeartbeats 8000000
set_option linter.all false
open Go.Proofs.Tryz
namespace Go.Proofs.YtjlkgfeepocjfaaGreatDoor
open Go.RowKit
variable {p p':Prop} {id:Nat} {H:List Ob} {w:World}
theorem Eo (h:p:=by first|exact xNt|exact xNg):p:=h
theorem Vi (k:p') (h:Hd9 p'→p:=by with_reducible first|(intro Z9;refine Tx 3 ?_;refine gO xM <| gO xA ?_;exact Z9.o)|(intro Z9;refine Tx 4 ?_;refine gO xL <| gO xF <| gO xD <| gO xM <| gO (xCl func119 (S1)) <| gO Eo <| gO xA ?_;exact Z9.o)|fail):p:=h ⟨k⟩
theorem YZ (k:p') (h:Hd9 p'→p:=by with_reducible first|(intro Z9;refine Tx 6 ?_;refine gO xL <| gO xF <| gO xD <| gO xM <| gO (xCl func120 (S2)) <| gO Eo <| gO xA ?_;exact Z9.o)|fail):p:=h ⟨k⟩
theorem AeH (k:p') (h:Hd9 p'→p:=by with_reducible first|(intro Z9;refine Bl (id:=8) AC (by kernel_rfl) ?_;refine gP xF <| gP xD <| gP xM <| gP (xIr Ag (hEi)) <| gP xL <| gP xL <| gP xL <| gP xM <| gP (xCl func114 (BD)) <| gP (xCl func115 (CM)) <| gP xLt <| gP xA ?_;refine Ke ?_;exact Z9.o)|fail):p:=h ⟨k⟩
theorem Vj (h:p:=by
 exact Au rfl (.cons_ (Db rfl rfl) (.cons_ (AqS AV) .nil_))):p:=h
theorem Vk (t u:Bool) {ps:List Prt} {bs:List Bk} {os:List Int} (hl:Dx ps bs os) (h0:AY ps bs os=0) (c:Ct) (ok:AqR bs c):CV prog Ah 51 [aDg t ps bs os,.agg (dCt u c)] [aB (vfK ps bs c).isNone,.agg [dI (vfF ps bs c).1,dI (vfF ps bs c).2]]:=by
 refine cvz func51 ntmps51 ?_
 have hl1:=hl.l1
 have hl2:=hl.l2
 have hlF:=ok.lF
 have hlR:=ok.lR
 have hlE:=ok.lE
 repeat' (with_reducible first|refine qq ?_|(refine Tx 0 ?_;refine gN xBo <| gN xBo <| gO xA <| gN (xAl CN) ?_)|(refine Tx 1 ?_;refine gO xF <| gO xD <| gO xN <| gO xM ?_))
 refine AJ (Be 3) (Al (fun n Fr H=>∃ k:Nat,k≤bs.length∧n=bs.length - k∧(∀ i,i<k→IL ps bs c i=0)∧Fr=ofL [(2,vr 0),(3,vr 1),(5,vr 2),(8,vd (Cw t bs)),(9,vi bs.length),(10,vi ((k:Nat)))]∧H=[.box 26 [.d (CY t ps),.d (Cw t bs),.d (AU t os)],.box 30 [.d (AU u c.F),.d (.row false 6 c.R.length (An (dIw false) c.R)),.d (.row false 3 c.E.length (An dyP c.E))],.box 34 [.d (.val (.int .i64 0)),.d (.val (.int .i64 0))]]) (n0:=bs.length) ⟨0,ad _,rfl,(fun i hi=>absurd hi (fo _)),rfl,rfl⟩ ?_)
 rintro n Fr H ⟨k,hk,rfl,hz,rfl,rfl⟩
 by_cases hlt:k<bs.length
 case pos =>
  obtain ⟨y,hy⟩:∃ y,bs[k]?=some y:=⟨_,gE hlt⟩
  have B:=Aac h0 hy
  have vs:=AdY hlt hz
  have hQ:IL ps bs c k=if Cl ps c.F y k=false then 1 else if Da ps c.R y k=false then 2 else if Gf (c.E[k]?.getD (0,0)) (AP ps c.F c.R c.E y (scA c.F k))<0 then 3 else if AeU c.F c.R c.E y k=false then 4 else 0:=by unfold IL;rw [LF hy]
  obtain ⟨q,hq⟩:∃ q,IL ps bs c k=q:=⟨_,rfl⟩
  rw [hq] at hQ
  have e1:q≠0→(vfK ps bs c).isNone=false:=fun h=>by rw [vs (by rw [hq];exact h)];rfl
  have e2:q≠0→vfF ps bs c=(q,(k:Int)):=fun h=>by unfold vfF;rw [vs (by rw [hq];exact h)];show (IL ps bs c k,_)=_;rw [hq]
  clear vs
  have S1:=WL t u os c.F k hy B hlF hl2 hl1
  have S2:=Vh t os k hy B c.R hlR ok.sR hl2 hl1
  have hEi:=Yy (E:=c.E) (k:=k) (by omega)
  cases h1:Cl ps c.F y k
  case false =>
   rw [h1] at S1
   rw [h1,if_pos rfl] at hQ
   rw [e1 (by rw [hQ];decide),e2 (by rw [hQ];decide),hQ]
   repeat' (with_reducible first|refine qq ?_|(refine Tx 2 ?_;refine gO xLt ?_)|refine Vi ?_|(refine Tx 5 ?_;refine gO xM <| gO (by exact AF rfl Cr rfl rfl) <| gO xA <| gZ (xSk AV) ?_))
   exact Vj
  have h1s:=h1
  rw [h1] at S1
  rw [h1,if_neg (by decide)] at hQ
  unfold Cl at h1s
  rw [ai,ai] at h1s
  have hs2:0≤scA c.F k∧scA c.F k≤30:=of_decide_eq_true h1s.1
  have hsa:y.kind≠0→∀ a∈y.args,0≤sG c.F a∧sG c.F a≤30:=fun k0 a ha=>by
   have h2:=h1s.2.1
   rw [decide_eq_false k0,cj] at h2
   exact of_decide_eq_true (List.all_eq_true.1 h2 a ha)
  cases h2:Da ps c.R y k
  case false =>
   rw [h2] at S2
   rw [h2,if_pos rfl] at hQ
   rw [e1 (by rw [hQ];decide),e2 (by rw [hQ];decide),hQ]
   repeat' (with_reducible first|refine qq ?_|(refine Tx 2 ?_;refine gO xLt ?_)|refine Vi ?_|refine YZ ?_|(refine Tx 7 ?_;refine gO xM <| gO (by exact AF rfl Cr rfl rfl) <| gO xA <| gZ (xSk AV) ?_))
   exact Vj
  rw [h2] at S2
  rw [h2,if_neg (by decide)] at hQ
  have BD:=LU false t u os c ok.lE ok.sE k hy B ok.lF ok.lR ok.sR hl2 hl1 hs2 hsa
  have sb:=ST (ps:=ps) (F:=c.F) (y:=y) hs2.1 hs2.2 ok.sR ok.sE (fun h6=>B.sv (by omega))
  have se:=DA ok.sE k
  obtain ⟨e,he⟩:∃ e,c.E[k]?.getD (0,0)=e:=⟨_,rfl⟩
  rw [he] at se hEi hQ
  obtain ⟨b,hb⟩:∃ b,AP ps c.F c.R c.E y (scA c.F k)=b:=⟨_,rfl⟩
  rw [hb] at BD sb hQ
  have CM:=(Ef (G:=Ah) false false e.1 e.2 b.1 b.2 se.ok sb.ok se.lz sb.lz).cv
  have hqc:Gf e b=Bm e.1 e.2 b.1 b.2:=rfl
  rw [hqc] at hQ
  generalize Bm e.1 e.2 b.1 b.2=z at *
  have FT:=Aan t u os c ok.lE ok.sE k hy B ok.lF ok.lR ok.sR hl2 hs2
  by_cases h3:z<0
  case pos =>
   rw [if_pos h3] at hQ
   rw [e1 (by rw [hQ];decide),e2 (by rw [hQ];decide),hQ]
   repeat' (with_reducible first|refine qq ?_|(refine Tx 2 ?_;refine gO xLt ?_)|refine Vi ?_|refine YZ ?_|refine AeH ?_|(refine Tx 9 ?_;refine gO xM <| gO (by exact AF rfl Cr rfl rfl) <| gO xA <| gZ (xSk AV) ?_))
   exact Vj
  rw [if_neg h3] at hQ
  cases h4:AeU c.F c.R c.E y k
  case false =>
   rw [h4] at FT
   rw [h4,if_pos rfl] at hQ
   rw [e1 (by rw [hQ];decide),e2 (by rw [hQ];decide),hQ]
   repeat' (with_reducible first|refine qq ?_|(refine Tx 2 ?_;refine gO xLt ?_)|refine Vi ?_|refine YZ ?_|refine AeH ?_|(refine Tx 10 ?_;refine gO xL <| gO xL <| gO xM <| gO (xCl func121 (FT)) <| gO Eo <| gO xA ?_)|(refine Tx 11 ?_;refine gO xM <| gO (by exact AF rfl Cr rfl rfl) <| gO xA <| gZ (xSk AV) ?_))
   exact Vj
  rw [h4] at FT
  rw [h4,if_neg (by decide)] at hQ
  rw [hQ] at hq
  repeat' (with_reducible first|refine qq ?_|(refine Tx 2 ?_;refine gO xLt ?_)|refine Vi ?_|refine YZ ?_|refine AeH ?_|(refine Tx 10 ?_;refine gO xL <| gO xL <| gO xM <| gO (xCl func121 (FT)) <| gO Eo <| gO xA ?_)|(refine Tx 12 ?_;refine gO xAd <| gO xM ?_))
  refine ⟨_,_,Be 3,_,by omega,k+1,by omega,rfl,Sn hz hq,rfl,rfl⟩
 obtain rfl:k=bs.length:=by omega
 have vn:=WC.2 hz
 have e1:(vfK ps bs c).isNone=true:=by rw [vn];rfl
 have e2:vfF ps bs c=(0,0):=by unfold vfF;rw [vn]
 rw [e1,e2]
 repeat' (with_reducible first|refine qq ?_|(refine Tx 2 ?_;refine gO xLt ?_)|(refine Tx 13 ?_;refine gO (by exact AF rfl Cr rfl rfl) <| gO xA <| gZ (xSk AV) ?_))
 exact Vj
section
variable {P:Program} {G:World→Prop} {o:Oper} {F:Frm} {H:List Ob}
theorem WM {t e ty:TypeId} {x y:Operand} {s n by_:Nat} {z:Value} {ds:List D} (ho:o.op=.call { callee:=.builtin .append,args:=#[x,y],argTypes:=#[t,t] }) (hx:F.ev x=.one .emp) (hy:F.ev y=.one (.own id n)) (hH:H[id]?=some (.row ty s n (ds.map C.d))) (hf:∀ d∈ds,DY d) (ht:TyS P t e s) (hz:TyZ P e z s by_) (hn:n≤1000000) (hby:by_≤1000) (hs0:0<s) :
  AZ P G o F H (.one (.d (.row false s n ds))) []:=Abt fun b0 m a hp hcx hor=>by
 have hv:=Bc hor (x:=x) (by rw [ho];simp [Op.operands,Call.operands])
 have hu:=Bc hor (x:=y) (by rw [ho];simp [Op.operands,Call.operands])
 rw [hx] at hv
 rw [hy] at hu
 obtain ⟨A,hxe⟩:∃ A:Option Addr,a.eval x=.slice A 0 0:=hv
 obtain ⟨xs,_,hat,hl⟩:=Il hcx hu (getElem?_pre hp hH)
 obtain ⟨i,hi,hi2⟩:=Option.map_eq_some_iff.1 hz.h
 simp only [Prod.mk.injEq] at hi2
 have hr:∀ (j:Nat) (u:D) (v:Value),ds[j]?=some u→xs[j]?=some v→Bx m.w m.S u v:=fun j u v hu' hv'=>by
  obtain ⟨v',h1,h2⟩:=(Ba.map_l.1 hl).at_ hu'
  rw [hv'] at h1
  cases h1
  exact h2
 have hlen:ds.length=xs.length:=by
  have:=hl.1
  rwa [af] at this
 obtain ⟨hxn,hcase⟩:=hat
 have hstart:∀ B c v w',a.eval y=.slice B n c→(Builtin.append_ #[t,t] o.type #[.slice A 0 0,.slice B n c]).run P m.w=.ok v w'→(execOp a.eval o).run P m.w=.ok (.value v) w':=fun B c v w' hye h=>by
  unfold execOp
  simp only [ho,resolve,invoke,builtin,ah,bq,az,kp,bp,iq,hxe,hye,h]
 rcases dh n with h0|h0
 ·subst h0
  have hd0:ds=[]:=bz (by rw [hlen,hxn];simp)
  subst hd0
  have hye:∃ B c,a.eval y=.slice B 0 c:=by
   rcases hcase with ⟨h,_⟩|⟨g,cap,cur,h,_⟩
   ·exact ⟨_,_,h⟩
   ·exact ⟨_,_,h⟩
  obtain ⟨B,c,hye⟩:=hye
  refine ⟨.slice A 0 0,m.w,hstart _ _ _ _ hye (Hh ht.h hi (aa _)),ab _ _,fun m2 _ _ _=>?_⟩
  exact Bx.row [] (aa _) (fun _=>rfl) (by simp) rfl (fun h=>absurd rfl h) (fun j u x h=>by simp at h)
 ·rcases hcase with ⟨_,h⟩|⟨g,cap,cur,hye,_,hheap,hcap0,_,hcs,htk⟩
  ·omega
  have hcells':∀ (j:Nat) (v:Value),xs[j]?=some v→m.w.cell? ((⟨g,0,none⟩:Addr).add j)=some v:=fun j v hj=>by
   rw [lm,av,cell_of_row _ _ j _ ty (0,0) hheap]
   have hjl:=(gS.1 hj).1
   rw [hxn] at hjl
   rw [←htk,kh hjl] at hj
   simpa using hj
  have hbytes:n*i.bytes≤1000000*1000:=en hn (by omega)
  have hrun:∃ cap' cur,(Builtin.append_ #[t,t] o.type #[.slice A 0 0,.slice (some ⟨g,0,none⟩) n cap]).run P m.w=.ok (.slice (some ⟨m.w.heap.size,0,none⟩) n cap') (m.w.drew.alloc (.cells (xs.toArray++cur) e))∧n≤cap':=by
   cases A with
   | none=>exact ⟨_,_,run_append_nil (P:=P) m.w t o.type e i z ht.h hi hi2.1 ⟨g,0,none⟩ n cap xs (by rw [hxn,hi2.2.1]) hcells' h0 (by omega) (by omega),grownCap_ge _ _ _ _⟩
   | some p =>
    have:=run_append_grow (P:=P) m.w t o.type e i z ht.h hi hi2.1 p 0 0 [] (by simp) (fun j v h=>by simp at h) ⟨g,0,none⟩ n cap xs (by rw [hxn,hi2.2.1]) hcells' (by omega) (by omega) (by
     rw [av,nextslicecap_zero h0];omega)
    simp only [av,dv] at this
    refine ⟨_,_,by simpa using this,grownCap_ge _ _ _ _⟩
  obtain ⟨cap',cur',hrun,hcap⟩:=hrun
  refine ⟨_,_,hstart _ _ _ _ hye hrun,((ab _ _).drew).alloc (aa _) _,fun m2 hle hw hS=>?_⟩
  refine Bx.row xs hcap (by simp) (by rw [hlen,hxn]) hlen (fun _=>⟨m.w.heap.size,0,rfl,hS _ (aa _) (by simp),fun j v hj=>?_⟩) (fun j u v hu' hv'=>?_)
  ·rw [hw,av]
   have:(m.w.drew.alloc (.cells (xs.toArray++cur') e)).heap[m.w.heap.size]?=some (.cells (xs.toArray++cur') e):=heap_alloc_new m.w.drew _
   rw [cell_of_row _ _ j _ e (0,0) this]
   have hjl:=(gS.1 hj).1
   rw [Array.getElem?_append_left (by simpa using hjl)]
   simpa using hj
  ·exact Bx.le hle (hr j u v hu' hv')
end
def Ase (n:Nat) (b:Bool):YR:=if b=true then .tup [.one (.own 0 n),.one (.d (.val (.int .i64 0)))] else .tup [.one (.d (.val (.slice none 0 0))),.one (.d (.val (.int .i64 4)))]
theorem WN (t:Bool) {ps:List Prt} {bs:List Bk} {os:List Int} (hl:Dx ps bs os) (h0:AY ps bs os=0) (R:List Iq) (hR:R.length=bs.length) (sR:∀ p∈R,IwS p LB LB):CV prog Ah 111 [aDg t ps bs os,.one (.row false 6 R.length (An (dIw false) R))] [aI 0]:=by
 refine cvz func111 ntmps111 ?_
 have hn:=hl.l2
 repeat' (with_reducible first|refine qq ?_|(refine Tx 0 ?_;refine gN xBo <| gO xA ?_)|(refine Tx 1 ?_;refine gO xM <| gO xN <| gO xF <| gO xD <| gO xN <| gO xNe ?_)|(refine Tx 3 ?_;refine gO xM <| gO xN <| gO xM ?_))
 refine AJ (Be 1) (Al (fun n Fr H=>∃ k:Nat,k≤R.length∧n=R.length - k∧Fr=ofL [(2,vr 0),(13,vd (.row false 6 R.length (An (dIw false) R))),(14,vi R.length),(15,vi ((k:Nat)))]∧H=[.box 26 [.d (CY t ps),.d (Cw t bs),.d (AU t os)]]) (n0:=R.length) ⟨0,ad _,rfl,rfl,rfl⟩ ?_)
 rintro n Fr H ⟨k,hk,rfl,rfl,rfl⟩
 by_cases hlt:k<R.length
 case pos =>
  obtain ⟨b,hb⟩:∃ b,R[k]?=some b:=⟨_,gE hlt⟩
  have sb:=sR b (gM hb)
  have VI:CV prog Ah 107 [aIw false b] [aB true]:=by
   have:=Nk (DU b.1) (DU b.2) (Gi sb.s1 (by decide)) (Gi sb.s2 (by decide))
   unfold dIr at this
   rw [Fo,Fo,show ivR (DU b.1) (DU b.2)=true from ZU sb] at this
   exact this
  repeat' (with_reducible first|refine qq ?_|(refine Tx 4 ?_;refine gO xLt ?_)|(refine Tx 5 ?_;refine gO (xIr Ad (Cu hb)) <| gO xL <| gN (xAl Ai) <| gZ (xSk Ab) ?_)|(refine Tx 6 ?_;refine gO xL <| gO (xCl func107 (VI)) <| gO Eo ?_)|(refine Tx 8 ?_;refine gO xAd <| gO xM ?_))
  refine ⟨_,_,Be 1,_,by omega,k+1,by omega,rfl,rfl,rfl⟩
 obtain rfl:k=R.length:=by omega
 repeat' (with_reducible first|refine qq ?_|(refine Tx 4 ?_;refine gO xLt ?_)|(refine Tx 9 ?_;refine gO xA ?_))
 exact Au rfl (.cons_ (Lw rfl rfl) .nil_)
theorem Ll (h:p:=by
 exact Au rfl (.cons_ (Db rfl (rfl)) .nil_)):p:=h
theorem Aao (b:Iq) (f m:Int) (h:IwS b LB LB) (f0:0≤f) (f1:f≤30) (m0:0≤m) (m1:m≤2147483647):CV prog Ah 112 [aIw false b,aI f,aI m] [aB (wiB b f m)]:=by
 refine cvz func112 ntmps112 ?_
 have sb:=h.abs.s2
 have MG:=MF b (h.more LBx LBx)
 obtain ⟨M,hM⟩:∃ M,Fu b=M:=⟨_,rfl⟩
 have sM:Sm (Fu b) LB LB:=Lc h
 rw [hM] at MG sM
 have SH:=(Ee (G:=Ah) false M.1 M.2 f sM.ok sM.lz (by have:=sM.ok.1;omega)).cv
 have st:=Fq sM f0 f1
 obtain ⟨T,hT⟩:∃ T,GN M f=T:=⟨_,rfl⟩
 rw [show Af M.1 M.2 f=T from hT] at SH
 rw [hT] at st
 have OF:=(Nd (G:=Ah) m (by omega) (by omega)).cv
 have CM:=(Ef (G:=Ah) false false T.1 T.2 m 0 st.ok ⟨by decide,fun h=>absurd rfl h⟩ st.lz (lT (Aw (k:=2) (by omega)) (by decide))).cv
 have hb:wiB b f m=decide (Bm T.1 T.2 m 0≤0):=by unfold wiB;rw [hM,hT]
 rw [hb]
 generalize Bm T.1 T.2 m 0=q at *
 repeat' (with_reducible first|refine qq ?_|(refine Tx 0 ?_;refine gN xBo <| gO xA ?_)|(refine Tx 1 ?_;refine gO xL <| gO (xCl func174 (MG)) <| gO xM <| gO (xCl func33 (SH)) <| gO xM <| gO (xCl func34 (OF)) <| gO (xCl func115 (CM)) <| gO xLe <| gO xA ?_))
 exact Ll
theorem Te (t:Bool) {ps:List Prt} {bs:List Bk} {os:List Int} (hl:Dx ps bs os) (h0:AY ps bs os=0) (R:List Iq) (hR:R.length=bs.length) (sR:∀ p∈R,IwS p LB LB):CVN prog Ah 49 [aDg t ps bs os,.one (.row false 6 R.length (An (dIw false) R))] (chW R.length (R.all pkB) (R.map pkS)) (Ase R.length (R.all pkB)):=by
 refine Ny NL func49 rfl ntmps49 (ax rfl) ?_
 have GC:=WN t hl h0 R hR sR
 have hn:=hl.l2
 repeat' (with_reducible first|refine qq ?_|(refine Tx 0 ?_;refine gN xBo <| gO xA <| gO xA ?_)|(refine Tx 1 ?_;refine gO xL <| gO xM <| gO (xCl func111 (GC)) <| gO xA ?_)|(refine Tx 2 ?_;refine gO xM <| gO xNe ?_)|(refine Tx 4 ?_;refine gO xA ?_))
 refine AJ (Fh 7 3 1 rfl) ?_
 repeat' (with_reducible first|refine qq ?_|(refine Tx 5 ?_;refine gO xM <| gO xN <| gO xM ?_))
 refine AJ (Be 2) (Al (fun n Fr H=>∃ k:Nat,k≤R.length∧n=R.length - k∧(∀ p∈R.take k,pkB p=true)∧Fr=ofL [(2,vr 0),(7,vo 1 (k)),(17,vd (.row false 6 R.length (An (dIw false) R))),(18,vi R.length),(19,vi ((k:Nat)))]∧H=[.box 26 [.d (CY t ps),.d (Cw t bs),.d (AU t os)],.row 3 1 (k) (cI ((R.map pkS).take (k)))]) (n0:=R.length) ⟨0,ad _,rfl,(fun p hp=>by simp at hp),rfl,rfl⟩ ?_)
 rintro n Fr H ⟨k,hk,rfl,hal,rfl,rfl⟩
 by_cases hlt:k<R.length
 case pos =>
  obtain ⟨b,hb⟩:∃ b,R[k]?=some b:=⟨_,gE hlt⟩
  have sb:=sR b (gM hb)
  repeat' (with_reducible first|refine qq ?_|(refine Tx 6 ?_;refine gO xLt ?_)|(refine Tx 7 ?_;refine gO (xIr Ad (Cu hb)) <| gO xL <| gN (xAl Ai) <| gZ (xSk Ab) ?_)|(refine Tx 8 ?_;refine gO xA ?_))
  refine AJ (Be 3) (Al (fun n Fr H=>n≤31∧pkF b n=pkS b∧Fr=ofL [(2,vr 0),(7,vo 1 (k)),(17,vd (.row false 6 R.length (An (dIw false) R))),(18,vi R.length),(19,vi ((k:Nat))),(9,vr 2),(10,vi (((n:Nat):Int) - 1))]∧H=[.box 26 [.d (CY t ps),.d (Cw t bs),.d (AU t os)],.row 3 1 (k) (cI ((R.map pkS).take (k))),.box 45 ((dIw false b).map C.d)]) (n0:=31) ⟨aa _,rfl,rfl,rfl⟩ ?_)
  rintro n Fr H ⟨hn31,hpk,rfl,rfl⟩
  cases n
  case zero =>
   have hpk:(-1:Int)=pkS b:=hpk
   have hnb:R.all pkB=false:=AdM hb (decide_eq_false (by omega))
   rw [show chW R.length (R.all pkB) (R.map pkS)=[] by rw [hnb];rfl,show Ase R.length (R.all pkB)=.tup [.one (.d (.val (.slice none 0 0))),.one (.d (.val (.int .i64 4)))] by rw [hnb];rfl]
   repeat' (with_reducible first|refine qq ?_|(refine Tx 9 ?_;refine gO xM <| gO xGe <| gO xM ?_;(first|iterate 2 refine Jd ?_|(refine Jy (xLa Ab) ?_;refine Jy xM1 ?_));refine Jd ?_;(first|refine Jd ?_|refine Jy Eo ?_);refine gO xPk ?_)|(refine Tx 11 ?_;refine gO xM <| gO xLt ?_)|(refine Tx 12 ?_;refine gO xA <| gO xA ?_))
   exact ⟨.inl rfl,[],by decide,.nil_,.tup (congrArg Array.toList results49) (.cons_ (.tmp rfl ⟨rfl,.val _⟩) (.cons_ (.tmp rfl ⟨rfl,.val _⟩) .nil_))⟩
  rename_i n
  have WI:=Aao b ((n+1:Nat) - 1:Int) 1073741824 sb (by omega) (by omega) (by decide) (by decide)
  have hpk:(if wiB b (n:Int) 1073741824=true then (n:Int) else pkF b n)=pkS b:=hpk
  have hne:(((n+1:Nat):Int) - 1)=(n:Int):=by omega
  rw [hne] at WI
  cases hw:wiB b (n:Int) 1073741824
  case false =>
   rw [hw] at WI hpk
   rw [if_neg (by decide)] at hpk
   rw [hne]
   repeat' (with_reducible first|refine qq ?_|(refine Tx 9 ?_;refine gO xM <| gO xGe <| gO xM ?_;(first|iterate 4 refine Jd ?_|(refine Jy (xLa Ab) ?_;refine Jy xM1 ?_;refine Jy (xCl func112 (WI)) ?_;refine Jy Eo ?_));refine gO xPk ?_)|(refine Tx 10 ?_;refine gO xM <| gO xSb <| gO xA ?_))
   refine ⟨_,_,Be 3,n,by omega,by omega,hpk,rfl,rfl⟩
  rw [hw] at WI hpk
  rw [if_pos rfl] at hpk
  have hpb:pkB b=true:=decide_eq_true (by omega)
  have hmp:(R.map pkS)[k]?=some (n:Int):=by rw [ag,hb,hpk];rfl
  have hap:((R.map pkS).take (k))++[(n:Int)]=((R.map pkS).take (k+1)):=by rw [bh,hmp];rfl
  rw [hne]
  repeat' (with_reducible first|refine qq ?_|(refine Tx 9 ?_;refine gO xM <| gO xGe <| gO xM ?_;(first|iterate 4 refine Jd ?_|(refine Jy (xLa Ab) ?_;refine Jy xM1 ?_;refine Jy (xCl func112 (WI)) ?_;refine Jy Eo ?_));refine gO xPk ?_)|(refine Tx 11 ?_;refine gO xM <| gO xLt ?_)|(refine Tx 13 ?_;refine gO xM <| gO xM <| gN (by exact BH rfl Ae CC rfl rfl (by decide) (by decide)) <| gT (by exact QJ rfl rfl rfl rfl rfl rfl Ae CC (by omega) (by decide) hap rfl) <| gO xA ?_)|(refine Tx 14 ?_;refine gO xAd <| gO xM ?_))
  refine ⟨_,_,Be 2,_,by omega,k+1,by omega,rfl,Dr hal hb hpb,rfl,rfl⟩
 obtain rfl:k=R.length:=by omega
 rw [aq] at hal
 have hall:R.all pkB=true:=List.all_eq_true.2 hal
 rw [show chW R.length (R.all pkB) (R.map pkS)=[⟨3,1,R.length,(R.map pkS).map dI⟩] by rw [hall];rfl,show Ase R.length (R.all pkB)=.tup [.one (.own 0 R.length),.one (.d (.val (.int .i64 0)))] by rw [hall];rfl]
 have hT:(R.map pkS).take R.length=R.map pkS:=aj (by rw [af];exact aa _)
 rw [hT]
 repeat' (with_reducible first|refine qq ?_|(refine Tx 6 ?_;refine gO xLt ?_)|(refine Tx 15 ?_;refine gO xM <| gO xA <| gO xA ?_))
 exact ⟨.inl rfl,[1],by decide,.cons_ ⟨congrArg some (congrArg (Ob.row _ 1 _) (Amo _)),Di _⟩ .nil_,.tup (congrArg Array.toList results49) (.cons_ (.tmp rfl ⟨1,_,rfl,rfl,rfl,rfl⟩) (.cons_ (.tmp rfl ⟨rfl,.val _⟩) .nil_))⟩
def mkW6 (n:Nat):Option Ct→List Nw
 | none=>[]
 | some c=>[⟨43,3,n,An dyP c.E⟩]
def mkY6 (n:Nat):Option Ct→YR
 | none=>.tup [.agg [.d (.val (.slice none 0 0)),.d (.val (.slice none 0 0)),.d (.val (.slice none 0 0))],.one (.d (.val (.bool false))),.one (.d (.val (.int .i64 0)))]
 | some c=>.tup [.agg [.d (.row false 1 n (c.F.map dI)),.d (.row false 6 n (An (dIw false) c.R)),.own 0 n],.one (.d (.val (.bool true))),.one (.d (.val (.int .i64 0)))]
theorem AeI (k:p') (h:Hd9 p'→p:=by with_reducible first|(intro Z9;refine Tx 0 ?_;refine gN xBo <| gN (xAl DZ) <| gO xA <| gO xA ?_;exact Z9.o)|(intro Z9;refine Tx 1 ?_;refine gO xM <| gO xLt <| gO xM ?_;(first|iterate 2 refine Jd ?_|(refine Jy xM1 ?_;refine Jy xGt ?_));refine gO xPk ?_;exact Z9.o)|(intro Z9;refine Tx 3 ?_;refine gO xL <| gO xM <| gO (xCl func47 (RI)) <| gO xMt <| gO xEx <| gO xEx <| gO xA <| gO xA ?_;exact Z9.o)|(intro Z9;refine Tx 4 ?_;refine gO xM <| gO xNe ?_;exact Z9.o)|fail):p:=h ⟨k⟩
theorem Za (h:p:=by first|exact Aeh rfl rfl|exact Xo rfl rfl):p:=h
theorem Nz (h:p:=by first|exact Aeg rfl rfl rfl|exact xEx):p:=h
theorem AjC (k:p') (h:Hd9 p'→p:=by with_reducible first|(intro Z9;refine Tx 6 ?_;refine gO xL <| gO xM <| gO (xCl func48 (EV)) <| gO xMt <| gO xEx <| gO xEx <| gO xA <| gO xA ?_;exact Z9.o)|(intro Z9;refine Tx 7 ?_;refine gO xM <| gO xNe ?_;exact Z9.o)|(intro Z9;refine Tx 9 ?_;refine gO xL <| gO xM ?_;refine Jl (by exact FN rfl func49 (by kernel_rfl) (by with_unfolding_all exact rfl) CH (by with_unfolding_all first|((repeat' first|exact Br rfl rfl|refine AO rfl rfl ?_ ?_|refine Dn rfl rfl ?_|refine Cf rfl rfl ?_|exact Bi rfl (fun h=>by cases h)|fail) <;> fail)|fail)) ?_;refine gO Za <| gO Nz <| gO Nz <| gO xA <| gO xA ?_;exact Z9.o)|(intro Z9;refine Tx 10 ?_;refine gO xM <| gO xNe ?_;exact Z9.o)|fail):p:=h ⟨k⟩
theorem AeJ (k:p') (h:Hd9 p'→p:=by with_reducible first|(intro Z9;refine Tx 12 ?_;refine gO (by exact Abu rfl Ae) <| gO xM <| gO (by first|exact WM rfl rfl rfl rfl (Di _) Ae CC (by omega) (by decide) (by decide)|exact ok_append0 rfl rfl (.inl rfl) rfl (Di _) Ae CC (by omega) (by decide) (by decide)) <| gO xM <| gO (by exact AF rfl EO rfl rfl) <| gN (xAl DZ) <| gZ (xSk Bd) ?_;exact Z9.o)|(intro Z9;refine Tx 13 ?_;refine gO xA ?_;exact Z9.o)|(intro Z9;refine Tx 14 ?_;refine gO xL <| gO xL ?_;refine Jl (by exact FN rfl func50 (by kernel_rfl) (by with_unfolding_all exact rfl) EC (by with_unfolding_all first|((repeat' first|exact Br rfl rfl|refine AO rfl rfl ?_ ?_|refine Dn rfl rfl ?_|refine Cf rfl rfl ?_|exact Bi rfl (fun h=>by cases h)|fail) <;> fail)|fail)) ?_;refine gO Za <| gO Nz <| gO Nz <| gO xF <| gZ (by first|exact xS1 AG|exact xSk AG) <| gO xA ?_;exact Z9.o)|(intro Z9;refine Tx 15 ?_;refine gO xM ?_;exact Z9.o)|fail):p:=h ⟨k⟩
theorem AjD (k:p') (h:Hd9 p'→p:=by with_reducible first|(intro Z9;refine Tx 22 ?_;refine gO xM <| gO xA ?_;exact Z9.o)|(intro Z9;refine Tx 23 ?_;refine gO xM <| gO xM <| gO (xIo (i:=k) Ae) <| gO (by first|exact xLi hla Az|exact xLd Az) <| gO xGt ?_;exact Z9.o)|(intro Z9;refine Tx 26 ?_;refine gO xAd <| gO xM ?_;exact Z9.o)|fail):p:=h ⟨k⟩
theorem AqH (k:p') (h:Hd9 p'→p:=by with_reducible first|(intro Z9;refine Tx 24 ?_;refine gO xM <| gO xM <| gO (xIo (i:=k) Ae) <| gO (by first|exact xLi hla Az|exact xLd Az) <| gO xSb <| gO (xIo (i:=k) Ae) <| gZ (by first|exact Ahx rfl rfl rfl rfl Az (by omega) hls|exact xS1 Az|exact xSk Az) ?_;exact Z9.o)|(intro Z9;refine Tx 25 ?_;refine gO xA ?_;exact Z9.o)|fail):p:=h ⟨k⟩
theorem AjE (k:p') (h:Hd9 p'→p:=by with_reducible first|(intro Z9;refine Tx 16 ?_;refine gO xL <| gO xL <| gO (by exact IG rfl func51 (by kernel_rfl) (by with_unfolding_all exact rfl) rfl VC (by with_unfolding_all exact AO rfl rfl ⟨true,Cf rfl rfl (AO rfl rfl (Bi rfl (fun h=>by cases h)) (AO rfl rfl (Bi rfl (fun h=>by cases h)) (AO rfl rfl (Bi rfl (fun h=>by cases h)) (Br rfl rfl))))⟩ (AO rfl rfl ⟨false,Cf rfl rfl (AO rfl rfl (Bi rfl (fun _=>.row (Di F))) (AO rfl rfl (Bi rfl (fun _=>.row (BV (f:=dIw false) Eh R))) (AO rfl rfl (Dc rfl rfl rfl (Fe rfl (Ej E))) (Br rfl rfl))))⟩ (Br rfl rfl)))) <| gO xMt <| gO xEx <| gO (by exact CQ rfl rfl rfl) <| gN (xAl CN) <| gO xA <| gZ (xSk AV) ?_;exact Z9.o)|(intro Z9;refine Tx 17 ?_;refine gO xM ?_;exact Z9.o)|fail):p:=h ⟨k⟩
theorem AjF (h:p:=by
 refine AJ (Be 3 (hH:=by rw [Amo];rfl)) (Al (fun n Fr H=>∃ k:Nat,k≤bs.length∧n=bs.length - k∧Fr=ofL [(2,vr 0),(4,vr 1),(9,vd (.row false 6 bs.length (An (dIw false) R))),(10,vo 2 bs.length),(15,vd (.val (.bool (Va (F.take k))))),(72,vo 2 bs.length),(73,vi bs.length),(74,vi ((k:Nat)))]∧H=[.box 26 [.d (CY t ps),.d (Cw t bs),.d (AU t os)],.box 30 [.d (.val (.slice none 0 0)),.d (.val (.slice none 0 0)),.d (.val (.slice none 0 0))],.row 3 1 bs.length (cI (Vd F (k)))]) (n0:=bs.length) ⟨0,ad _,rfl,rfl,rfl⟩ ?_)
 rintro m Fr H ⟨k,hk,rfl,rfl,rfl⟩
 have hFl:=hF.len
 by_cases hlt:k<bs.length
 case pos =>
  obtain ⟨z,hz⟩:∃ z,F[k]?=some z:=⟨_,gE (by omega)⟩
  obtain ⟨hla,hls,hlb2⟩:=Aem hz
  have hz2:=hF.in_ z (gM hz)
  have hll2:=YJ F k
  by_cases hzp:0<z
  case pos =>
   rw [show AiJ z=z - 1 from if_pos hzp] at hls
   rw [decide_eq_true hzp,Bool.or_true] at hlb2
   repeat' (with_reducible first|refine qq ?_|(refine Tx 21 ?_;refine gO xLt ?_)|refine AjD ?_|refine AqH ?_)
   refine ⟨_,_,Be 3 (h:=by rw [hlb2];exact mB rfl rfl),_,?_,k+1,by omega,rfl,rfl,rfl⟩
   ·omega
  rw [show AiJ z=z from if_neg hzp,show (Vd F k).set k z=Vd F k from YO hla] at hls
  rw [decide_eq_false hzp,Bool.or_false] at hlb2
  repeat' (with_reducible first|refine qq ?_|(refine Tx 21 ?_;refine gO xLt ?_)|refine AjD ?_)
  refine ⟨_,_,Be 3 (hH:=by rw [←hls];rfl) (h:=by rw [hlb2];exact mB rfl rfl),_,?_,k+1,by omega,rfl,rfl,rfl⟩
  ·omega
 obtain rfl:k=bs.length:=by omega
 have hle:Vd F bs.length=Tm F:=by unfold Vd;rw [aj (by omega),List.drop_of_length_le (by omega),bc]
 have hlt2:Va (F.take bs.length)=Va F:=by rw [aj (by omega)]
 rw [hle,hlt2]
 cases hlow:Va F
 case false =>
  rw [hlow,if_neg (by decide)] at hres
  subst hres
  repeat' (with_reducible first|refine qq ?_|(refine Tx 21 ?_;refine gO xLt ?_)|(refine Tx 27 ?_;refine gO xM <| gO Eo ?_)|(refine Tx 28 ?_;refine gO (by exact AF rfl EO rfl rfl) <| gZ (xSk Bd) <| gO xA <| gO xA ?_))
  exact ⟨.inl rfl,[],by decide,.nil_,.tup (congrArg Array.toList results16) (.cons_ (IH Bd rfl rfl rfl (.cons_ ⟨rfl,.val _⟩ (.cons_ ⟨rfl,.val _⟩ (.cons_ ⟨rfl,.val _⟩ .nil_)))) (.cons_ (.tmp rfl ⟨rfl,.val _⟩) (.cons_ (.tmp rfl ⟨rfl,.val _⟩) .nil_)))⟩
 rw [hlow,if_pos rfl] at hres
 repeat' (with_reducible first|refine qq ?_|(refine Tx 21 ?_;refine gO xLt ?_)|(refine Tx 27 ?_;refine gO xM <| gO Eo ?_))
 refine ⟨_,_,Gw (H':=[.box 26 [.d (CY t ps),.d (Cw t bs),.d (AU t os)],.box 30 [.d (.val (.slice none 0 0)),.d (.val (.slice none 0 0)),.d (.val (.slice none 0 0))],.row 3 1 bs.length (((Tm F).map dI).map C.d)]) [(2,vr 0),(4,vr 1),(9,vd (.row false 6 bs.length (An (dIw false) R))),(10,vo 2 bs.length)] 3 ?_ ?_ ?_,n,by omega,Tm F,Tc hFn hlow,AiS hFn (Tc hFn hlow),hres,hF.low,rfl,rfl⟩
 ·rw [Amo];rfl
 ·exact mB rfl rfl
 ·exact ⟨BS rfl,BS rfl,AcH,trivial⟩):p:=h
theorem AjG (h:p:=by
 exact ⟨.inl rfl,[],by decide,.nil_,.tup (congrArg Array.toList results16) (.cons_ (IH Bd rfl rfl rfl (.cons_ ⟨rfl,.val _⟩ (.cons_ ⟨rfl,.val _⟩ (.cons_ ⟨rfl,.val _⟩ .nil_)))) (.cons_ (.tmp rfl ⟨rfl,.val _⟩) (.cons_ (.tmp rfl ⟨rfl,.val _⟩) .nil_)))⟩):p:=h
theorem WO (t:Bool) {ps:List Prt} {bs:List Bk} {os:List Int} (hl:Dx ps bs os) (h0:AY ps bs os=0) (rd:Int) (r0:1≤rd) (r1:rd≤16) {f:Nat} {e:Int} {l:List Iq} (hf:f≤1000000000) (hres:La ps bs rd f=some (e,l)) (hI:(e=0∧PP bs l∧Dt ps bs l=false∧Wx ps bs l=true)∨((e=4∨e=22)∧l=[])):CVN prog Ah 16 [aDg t ps bs os,aI rd] (mkW6 bs.length (mkC ps bs os e l)) (mkY6 bs.length (mkC ps bs os e l)):=by
 refine Ny NL func16 rfl ntmps16 (ax rfl) ?_
 have RI:=WK t hl h0 rd r0 r1 (e,l) f hf hres
 dsimp only at RI
 have hn:=hl.l2
 have hdb:=Fp bs
 rcases hI with ⟨rfl,hI,hb,_⟩|⟨hne,rfl⟩
 case inr =>
  rw [show mkC ps bs os e []=none from if_neg fun h=>by omega]
  repeat' (with_reducible first|refine qq ?_|refine AeI ?_|(refine Tx 5 ?_;refine gO (by exact AF rfl EO rfl rfl) <| gZ (xSk Bd) <| gO xA <| gO xA ?_))
  exact AjG
 have hlb:=hI.lb hb
 have hll:=hI.len
 have EV:=UT t hl h0 (l.map Rh) (Ri hI.iw (by decide)) (by rw [af];omega)
 rw [Yv h0 hI.iw hll,IC,LM,if_neg (by rw [hb];decide),Un rfl] at EV
 unfold AeT at EV RI
 have hR:(rgV ps bs l).length=bs.length:=LL
 have sR:=Wy h0 hlb hll hb
 have hm:mkC ps bs os 0 l=if (rgV ps bs l).all pkB=true then mkL ps bs os (rgV ps bs l) 31 ((rgV ps bs l).map pkS) else none:=by
  by_cases h:(rgV ps bs l).all pkB=true
  ·rw [if_pos h];exact if_pos ⟨rfl,h⟩
  ·rw [if_neg h];exact if_neg fun hc=>h hc.2
 rw [hm]
 clear hm hres
 generalize rgV ps bs l=R at *
 have CH:=Te t hl h0 R hR sR
 rw [hR] at CH EV
 cases hp:R.all pkB
 case false =>
  rw [hp] at CH
  rw [if_neg (by decide)]
  repeat' (with_reducible first|refine qq ?_|refine AeI ?_|refine AjC ?_|(refine Tx 11 ?_;refine gO (by exact AF rfl EO rfl rfl) <| gZ (xSk Bd) <| gO xA <| gO xA ?_))
  exact AjG
 rw [hp] at CH
 rw [if_pos rfl]
 have hF0:=Amm hR hp
 repeat' (with_reducible first|refine qq ?_|refine AeI ?_|refine AjC ?_)
 refine AJ (Be 3) (Al (fun n Fr H=>∃ (F:List Int),1≤n∧(∀ f∈F,f≤(n:Int) - 1)∧mkL ps bs os R n F=mkL ps bs os R 31 (R.map pkS)∧WD bs F∧Fr=ofL [(2,vr 0),(4,vr 1),(9,vd (.row false 6 bs.length (An (dIw false) R))),(10,vo 2 bs.length)]∧H=[.box 26 [.d (CY t ps),.d (Cw t bs),.d (AU t os)],.box 30 [.d (.val (.slice none 0 0)),.d (.val (.slice none 0 0)),.d (.val (.slice none 0 0))],.row 3 1 bs.length ((F.map dI).map C.d)]) (n0:=31) ⟨R.map pkS,by decide,fun f hf=>by have:=hF0.in_ f hf;omega,rfl,hF0,rfl,rfl⟩ ?_)
 clear CH EV RI
 rintro n Fr H ⟨F,n1,hFn,hres,hF,rfl,rfl⟩
 cases n
 case zero=>omega
 rename_i n
 generalize mkL ps bs os R 31 (R.map pkS)=res at *
 unfold mkL mkT at hres
 have EC:=fun r (h:erA ps bs F R=r)=>Td t hl h0 false ⟨F,R,[]⟩ (.val (.slice none 0 0)) hF hR sR h
 unfold dCx AU at EC
 dsimp only at EC
 rw [hF.len,hR] at EC
 rcases hA:erA ps bs F R with _|E
 case none =>
  have EC:=EC _ hA
  rw [hA] at hres
  have hres:(if Va F=true then mkL ps bs os R n (Tm F) else none)=res:=hres
  repeat' (with_reducible first|refine qq ?_|refine AeJ ?_|(refine Tx 19 ?_;refine gO xA ?_)|(refine Tx 20 ?_;refine gO xM <| gO xN <| gO xM ?_))
  exact AjF
 have EC:=EC _ hA
 rw [hA] at hres
 have hE:=Aed h0 hF.sc sR hA
 have VC:=Vk t false hl h0 ⟨F,R,E⟩ ⟨hF.len,hR,hE.len,sR,WB hE.sm,hE.nn⟩
 have hv2:(vfK ps bs ⟨F,R,E⟩).isNone=vfA ps bs os F R E:=by unfold vfA vfE;rw [Aef h0 hF hR sR hE,Aqx];rfl
 rw [hv2] at VC
 generalize vfF ps bs ⟨F,R,E⟩=vp at VC
 unfold dCt AU at VC
 dsimp only at VC
 rw [hF.len,hE.len,hR] at VC
 have hres:(match (if vfA ps bs os F R E=true then some E else none) with|some E=>some ⟨F,R,E⟩|none=>if Va F=true then mkL ps bs os R n (Tm F) else none)=res:=hres
 cases hv:vfA ps bs os F R E
 case true =>
  rw [hv] at VC hres
  rw [if_pos rfl] at hres
  dsimp only at hres
  subst hres
  repeat' (with_reducible first|refine qq ?_|refine AeJ ?_|refine AjE ?_|(refine Tx 18 ?_;refine gO xL <| gZ (xSk Bd) <| gO xA <| gO xA ?_))
  exact ⟨.inl rfl,[4],by decide,.cons_ ⟨rfl,Ej _⟩ .nil_,.tup (congrArg Array.toList results16) (.cons_ (IH Bd rfl rfl rfl (.cons_ ⟨rfl,.row (Di _)⟩ (.cons_ ⟨rfl,.row (BV (f:=dIw false) Eh _)⟩ (.cons_ ⟨4,_,rfl,rfl,rfl,rfl⟩ .nil_)))) (.cons_ (.tmp rfl ⟨rfl,.val _⟩) (.cons_ (.tmp rfl ⟨rfl,.val _⟩) .nil_)))⟩
 rw [hv] at VC hres
 rw [if_neg (by decide)] at hres
 dsimp only at hres
 repeat' (with_reducible first|refine qq ?_|refine AeJ ?_|refine AjE ?_|(refine Tx 19 ?_;refine gO xA ?_)|(refine Tx 20 ?_;refine gO xM <| gO xN <| gO xM ?_))
 exact AjF
theorem AeK {P:Program} {F:Frm} {t:Tmp} {ty ty' k:Nat} (hk:TyK P ty true k) (hi:3=k:=by rfl) (hF:F t=.one (.ref id 0 none):=by with_unfolding_all exact rfl) (hH:H[id]?=some (.box ty' [.d (.val (.slice none 0 0)),.d (.val (.slice none 0 0)),.d (.val (.slice none 0 0))]):=by with_unfolding_all exact rfl):RV P F H (.cell t ty) (.agg [.val (.slice none 0 0),.val (.slice none 0 0),.val (.slice none 0 0)]):=by
 obtain ⟨⟨dd,hu,hd⟩,hz⟩:=hk
 exact .cellA hF hH hu hd (by rw [hz,←hi];rfl) (.cons_ (.d fun _=>.val _) (.cons_ (.d fun _=>.val _) (.cons_ (.d fun _=>.val _) .nil_)))
theorem AjH (k:p') (h:Hd9 p'→p:=by with_reducible first|(intro Z9;refine Tx 7 ?_;refine gO xM <| gO xLt <| gO xM ?_;(first|iterate 2 refine Jd ?_|(refine Jy xM1 ?_;refine Jy xGt ?_));refine gO xPk ?_;exact Z9.o)|(intro Z9;refine Tx 8 ?_;refine gO (by exact AF rfl EO rfl rfl) <| gO (xMi underlying85) <| gZ (xSk Bd) <| gO xA <| gO xA ?_;exact Z9.o)|fail):p:=h ⟨k⟩
theorem Ro (t:Bool) {ps:List Prt} {bs:List Bk} {os:List Int} (hl:Dx ps bs os) (rd:Int) (hr:AY ps bs os=0→¬ (1≤rd∧rd≤16)):CV prog Ah 12 [aDg t ps bs os,aI rd] [.agg [.val (.slice none 0 0),.val (.slice none 0 0),.val (.slice none 0 0)],aB false,aE (if AY ps bs os=0 then 3 else AY ps bs os)]:=by
 refine cvz func12 ntmps12 ?_
 have OC:=Sj t hl (ps:=ps) (bs:=bs) (os:=os)
 have DC:=(Hr t hl (ps:=ps) (bs:=bs) (os:=os)).cv
 have hn:=hl.l2
 by_cases h0:AY ps bs os=0
 case neg =>
  rw [if_neg h0] at OC
  rw [if_neg h0]
  repeat' (with_reducible first|refine qq ?_|(refine Tx 0 ?_;refine gN xBo <| gN (xAl DZ) <| gO xA <| gO xA ?_)|(refine Tx 1 ?_;refine gO xL <| gO (xCl func35 (OC)) <| gO xMt <| gO xEx <| gO xEx <| gO xA <| gO xA ?_)|(refine Tx 2 ?_;refine gO xM <| gO (by first|exact BN rfl Am rfl (Hl h0)|exact BN rfl Am rfl (OX (by first|rfl|omega))|exact BN rfl Am rfl (Hl (by first|assumption|omega))|exact BN rfl Am rfl rfl) ?_)|(refine Tx 3 ?_;refine gO (by exact AF rfl EO rfl rfl) <| gO xM <| gZ (xSk Bd) <| gO xA <| gO xA ?_))
  exact Au rfl (.cons_ (AeK Bd) (.cons_ (Db rfl rfl) (.cons_ (AbN rfl rfl) .nil_)))
 rw [if_pos h0,h0] at OC DC
 rw [if_pos h0]
 have hr:=hr h0
 repeat' (with_reducible first|refine qq ?_|(refine Tx 0 ?_;refine gN xBo <| gN (xAl DZ) <| gO xA <| gO xA ?_)|(refine Tx 1 ?_;refine gO xL <| gO (xCl func35 (OC)) <| gO xMt <| gO xEx <| gO xEx <| gO xA <| gO xA ?_)|(refine Tx 2 ?_;refine gO xM <| gO (xNE Am) ?_)|(refine Tx 4 ?_;refine gO xL <| gO (xCl func36 (DC)) <| gO xMt <| gO xEx <| gO xEx <| gO xA <| gO xA ?_)|(refine Tx 5 ?_;refine gO xM <| gO (xNE Am) ?_))
 by_cases c1:rd<1
 case pos =>
  repeat' (with_reducible first|refine qq ?_|refine AjH ?_)
  exact Au rfl (.cons_ (AeK Bd) (.cons_ (Db rfl rfl) (.cons_ (ZB rfl (by decide) rfl) .nil_)))
 repeat' (with_reducible first|refine qq ?_|refine AjH ?_)
 exact Au rfl (.cons_ (AeK Bd) (.cons_ (Db rfl rfl) (.cons_ (ZB rfl (by decide) rfl) .nil_)))
theorem AjI (k:p') (h:Hd9 p'→p:=by with_reducible first|(intro Z9;refine qq ?_;exact Z9.o)|(intro Z9;refine Tx 0 ?_;refine gN xBo <| gN (xAl DZ) <| gO xA <| gO xA ?_;exact Z9.o)|(intro Z9;refine Tx 1 ?_;refine gO xM <| gO xLt <| gO xM ?_;(first|iterate 2 refine Jd ?_|(refine Jy xM1 ?_;refine Jy xGt ?_));refine gO xPk ?_;exact Z9.o)|(intro Z9;refine Tx 2 ?_;refine gO (by exact AF rfl EO rfl rfl) <| gZ (xSk Bd) <| gO xA <| gO xA ?_;exact Z9.o)|fail):p:=h ⟨k⟩
theorem WP (t:Bool) {ps:List Prt} {bs:List Bk} {os:List Int} (rd:Int) (hr:¬ (1≤rd∧rd≤16)):CV prog Ah 16 [aDg t ps bs os,aI rd] [.agg [.val (.slice none 0 0),.val (.slice none 0 0),.val (.slice none 0 0)],aB false,aI 3]:=by
 refine cvz func16 ntmps16 ?_
 by_cases c1:rd<1
 case pos =>
  repeat' (with_reducible first|refine AjI ?_)
  exact Au rfl (.cons_ (AeK Bd) (.cons_ (Db rfl rfl) (.cons_ (Lw rfl rfl) .nil_)))
 repeat' (with_reducible first|refine AjI ?_)
 exact Au rfl (.cons_ (AeK Bd) (.cons_ (Db rfl rfl) (.cons_ (Lw rfl rfl) .nil_)))
theorem WQ  : CV prog Ah 15 [.agg [.val (.slice none 0 0),.val (.slice none 0 0),.val (.slice none 0 0)],.agg [.val (.slice none 0 0),.val (.slice none 0 0),.val (.slice none 0 0)]] [aB true]:=by
 refine cvz func15 ntmps15 ?_
 have SI:=US [] (fun a ha=>by cases ha) (by decide)
 have SL:=XZ false false [] [] (fun p hp=>by cases hp) (fun p hp=>by cases hp) (by decide) (by decide)
 rw [show decide (([]:List (Int × Nat))=[])=true from rfl] at SL
 repeat' (with_reducible first|refine qq ?_|(refine Tx 0 ?_;refine gN xBo <| gN xBo <| gO xA ?_)|(refine Tx 1 ?_;refine gO xF <| gO xD <| gO xN <| gO xF <| gO xD <| gO xN <| gO xNe <| gO xM ?_;(first|iterate 6 refine Jd ?_|(refine Jy (xFa Io Bg) ?_;refine Jy (xLd Bg) ?_;refine Jy (xFa Io Bg) ?_;refine Jy (xLd Bg) ?_;refine Jy (xCl func45 (SI)) ?_;refine Jy Eo ?_));refine gO xPk <| gO xM ?_;(first|iterate 6 refine Jd ?_|(refine Jy (xFa DI AG) ?_;refine Jy (xLd AG) ?_;refine Jy (xFa DI AG) ?_;refine Jy (xLd AG) ?_;refine Jy (xCl func46 (SL)) ?_;refine Jy Eo ?_));refine gO xPk ?_)|(refine Tx 3 ?_;refine gO xF <| gO xD <| gO xN <| gO xM ?_))
 refine AJ (Be 2) (Al (fun n Fr H=>n=0∧Fr=ofL [(2,vr 0),(3,vr 1),(31,vi 0),(32,vi 0)]∧H=[.box 30 [.d (.val (.slice none 0 0)),.d (.val (.slice none 0 0)),.d (.val (.slice none 0 0))],.box 30 [.d (.val (.slice none 0 0)),.d (.val (.slice none 0 0)),.d (.val (.slice none 0 0))]]) (n0:=0) ⟨rfl,rfl,rfl⟩ ?_)
 rintro n Fr H ⟨rfl,rfl,rfl⟩
 repeat' (with_reducible first|refine qq ?_|(refine Tx 4 ?_;refine gO xLt ?_)|(refine Tx 9 ?_;refine gO xA ?_))
 exact Ll
theorem Aap (u v:Bool) (c:Ct) (sR:∀ p∈c.R,IwS p LB LB) (sE:∀ p∈c.E,Sm p LB LB) (hF:c.F.length≤1000000) (hR:c.R.length≤1000000) (hE:c.E.length≤1000000):CV prog Ah 15 [.agg (dCt u c),.agg (dCt v c)] [aB true]:=by
 refine cvz func15 ntmps15 ?_
 have SI:=US c.R (fun a ha=>(sR a ha).more (by decide) (by decide)) hR
 have SL:=XZ false false c.E c.E (fun p hp=>lT ((sE p hp).lenN 128 (by decide)) (by decide)) (fun p hp=>lT ((sE p hp).lenN 128 (by decide)) (by decide)) hE hE
 rw [decide_eq_true rfl] at SL
 repeat' (with_reducible first|refine qq ?_|(refine Tx 0 ?_;refine gN xBo <| gN xBo <| gO xA ?_)|(refine Tx 1 ?_;refine gO xF <| gO xD <| gO xN <| gO xF <| gO xD <| gO xN <| gO xNe <| gO xM ?_;(first|iterate 6 refine Jd ?_|(refine Jy (xFa Io Bg) ?_;refine Jy (xLd Bg) ?_;refine Jy (xFa Io Bg) ?_;refine Jy (xLd Bg) ?_;refine Jy (xCl func45 (SI)) ?_;refine Jy Eo ?_));refine gO xPk <| gO xM ?_;(first|iterate 6 refine Jd ?_|(refine Jy (xFa DI AG) ?_;refine Jy (xLd AG) ?_;refine Jy (xFa DI AG) ?_;refine Jy (xLd AG) ?_;refine Jy (xCl func46 (SL)) ?_;refine Jy Eo ?_));refine gO xPk ?_)|(refine Tx 3 ?_;refine gO xF <| gO xD <| gO xN <| gO xM ?_))
 refine AJ (Be 2) (Al (fun n Fr H=>∃ k:Nat,k≤c.F.length∧n=c.F.length - k∧Fr=ofL [(2,vr 0),(3,vr 1),(31,vi c.F.length),(32,vi ((k:Nat)))]∧H=[.box 30 [.d (AU u c.F),.d (.row false 6 c.R.length (An (dIw false) c.R)),.d (.row false 3 c.E.length (An dyP c.E))],.box 30 [.d (AU v c.F),.d (.row false 6 c.R.length (An (dIw false) c.R)),.d (.row false 3 c.E.length (An dyP c.E))]]) (n0:=c.F.length) ⟨0,ad _,rfl,rfl,rfl⟩ ?_)
 rintro n Fr H ⟨k,hk,rfl,rfl,rfl⟩
 by_cases hlt:k<c.F.length
 case pos =>
  obtain ⟨f,hf⟩:∃ f,c.F[k]?=some f:=⟨_,gE hlt⟩
  repeat' (with_reducible first|refine qq ?_|(refine Tx 4 ?_;refine gO xLt ?_)|(refine Tx 5 ?_;refine gO xM <| gO xA ?_)|(refine Bl (id:=6) AC (by kernel_rfl) ?_;refine gP xF <| gP xD <| gP xM <| gP (xIr Ae (Ay hf)) <| gP xD <| gP xF <| gP xD <| gP xM <| gP (xIr Ae (Ay hf)) <| gP xD <| gP xNe ?_;refine Ke ?_)|(refine Tx 8 ?_;refine gO xAd <| gO xM ?_))
  refine ⟨_,_,Be 2,_,by omega,k+1,by omega,rfl,rfl,rfl⟩
 obtain rfl:k=c.F.length:=by omega
 repeat' (with_reducible first|refine qq ?_|(refine Tx 4 ?_;refine gO xLt ?_)|(refine Tx 9 ?_;refine gO xA ?_))
 exact Ll
def eiV (ns:List Int):List Pq:=ns.map fun n=>Af n 0 (-3)
theorem Asf {ns:List Int} {k:Nat} {n:Int} (h:ns[k]?=some n):(eiV ns)[k]?=some (Af n 0 (-3)):=by unfold eiV;rw [ag,h];rfl
def WR:List Int:=[4,4,4,4]
def Amw:List Iq:=[CI [(-1,0),(1,0)],CI [(-1,0),(1,0)],CI [(-2,0),(2,0)],CI [(-2,0),(2,0)]]
def AmM:List Pq:=eiV [0,1,1,1]
def exCt:Ct:=⟨WR,Amw,AmM⟩
theorem EM {t:Bool} {cs:List C} {ds:List D} (hc:cs=ds.map C.d) (h:∀ d∈ds,DY d):Ba (FB t H) cs ds:=by
 subst hc
 exact Ba.map_l.2 ⟨rfl,fun j a b ha hb=>by rw [ha] at hb;cases hb;exact .d fun _=>h _ (gM ha)⟩
theorem Qj:∀ d∈An (dIw false) Amw,DY d:=fun d hd=>BV (f:=dIw false) (fun a=>Eh a) Amw d hd
def Aaq:List (Rv × Rv):=Amw.map Rh
def Amx:List Rv:=AmM.map DU
theorem Asg:dCr false WR Aaq Amx=dCt false exCt:=by
 unfold dCr dCt Aaq Amx
 rw [LM,Wp]
 rfl
theorem AqI:∀ q∈Aaq,RvL q.1∧RvL q.2:=fun q hq=>by
 obtain ⟨a,ha,rfl⟩:=List.mem_map.1 hq
 have key:(Amw.all fun a=>decide ((Ac a.1.1.natAbs).length≤40000) && decide ((Ac a.2.1.natAbs).length≤40000))=true:=by decide +kernel
 have:=List.all_eq_true.1 key a ha
 rw [ai,decide_eq_true_eq,decide_eq_true_eq] at this
 exact ⟨⟨AE _,this.1⟩,⟨AE _,this.2⟩⟩
theorem Ash:∀ r∈Amx,RvL r:=fun r hr=>by
 obtain ⟨a,ha,rfl⟩:=List.mem_map.1 hr
 have key:(AmM.all fun a=>decide ((Ac a.1.natAbs).length≤40000))=true:=by decide +kernel
 exact ⟨AE _,of_decide_eq_true (List.all_eq_true.1 key a ha)⟩
theorem Asi:ckE flP flB flO WR Aaq Amx=0:=by decide +kernel
theorem Asj:vfE flP flB flO WR Aaq Amx=true:=by decide +kernel
theorem AjJ:Dx flP flB flO:=⟨by decide,by decide,by decide,by decide⟩
section
variable {P:Program} {G:World→Prop} {o:Oper} {F:Frm} {H:List Ob}
theorem AjK {m:Mm}:∀ {vs:List Value} {v:Value},FU m (.agg (vs.map fun u=>.d (.val u))) v→v=.agg vs.toArray:=fun {vs v} h=>by
 obtain ⟨xs,rfl,hl⟩:=h
 have:xs=vs:=by
  refine ef fun j=>?_
  have hlen:=hl.1
  rw [af] at hlen
  cases hj:vs[j]? with
  | none =>
   rw [List.getElem?_eq_none_iff] at hj ⊢
   omega
  | some u =>
   have hlt:=(gS.1 hj).1
   obtain ⟨x,hx⟩:∃ x,xs[j]?=some x:=⟨_,gE (by omega)⟩
   have h1:=hl.2 j (.d (.val u)) x (by simp [hj]) hx
   have h2:Bx m.w m.S (.val u) x:=h1
   cases h2
   exact hx
 rw [this]
theorem Amy {t t':TypeId} {x y:Operand} {b r:Bool} {op:BinOp} {xs ys:List Value} (ho:o.op=.binOp op t x y t') (hg:P.eqGuardType P.depth t=false) (hop:(op=.eql∧b=r)∨(op=.neq∧b=!r)) (hx:F.ev x=.agg (xs.map fun u=>.d (.val u))) (hy:F.ev y=.agg (ys.map fun u=>.d (.val u)))
  (he:∀ w,(Op.equalIn 10000 t (.agg xs.toArray) (.agg ys.toArray)).run P w=.ok r w):AZ P G o F H (.one (.d (.val (.bool b)))) []:=Ce fun b0 m a _ _ hor=>by
 have ex:=AjK (m:=m) (v:=a.eval x) (by rw [←hx];exact Bc hor (by rw [ho];simp [Op.operands]))
 have ey:=AjK (m:=m) (v:=a.eval y) (by rw [←hy];exact Bc hor (by rw [ho];simp [Op.operands]))
 refine ⟨.bool b,?_,Bx.val rfl⟩
 unfold execOp
 simp only [ho,ex,ey]
 rw [ah]
 have h:((do eqGuard op t x y (.agg xs.toArray) (.agg ys.toArray);binOp op t (.agg xs.toArray) (.agg ys.toArray)):Sem Value).run P m.w=.ok (.bool b) m.w:=by
  rw [ah,run_eqGuard_agg m.w op t x y _ _ hg,az]
  rcases hop with ⟨rfl,rfl⟩|⟨rfl,rfl⟩
  ·rw [run_eql_struct,he,az]
  ·rw [run_neq_struct,he,az]
 rw [h]
 rfl
end
theorem AeL {P:Program} {fn:Func} {F:Frm} {ids:List Nat} {rows:List Nw} {t:Tmp} {ty ty' k:Nat} {cs:List C} {ys:List Yr} (hk:TyK P ty true k) (hr:fn.results=#[.cell t ty]) (hF:F t=.one (.ref id 0 none)) (hH:H[id]?=some (.box ty' cs)) (hi:cs.length=k) (h:Ba (YC ids rows) ys cs):AqB P fn F H ids rows (.agg ys):=by
 obtain ⟨⟨d,hu,hd⟩,hz⟩:=hk
 exact .cell hr hF hH hu hd (by rw [hz,hi]) h
theorem Ox (l:List Pq):∀ d∈An dyP l,DY d:=fun d hd=>BV (f:=dyP) (fun p=>Nj _ _) l d hd
theorem Gr (l:List Int):∀ d∈l.map dI,DY d:=fun d hd=>by
 obtain ⟨z,_,rfl⟩:=List.mem_map.1 hd
 exact .val _
theorem WS (a b c d:Int) (w:World):(Op.equalIn 10000 34 (.agg #[.int .i64 a,.int .i64 b]) (.agg #[.int .i64 c,.int .i64 d])).run prog w=.ok (a == c && b == d) w:=by
 have hS:prog.underlying 34=some (.struct (prog.fieldsOf 34)):=by kernel_rfl
 have hp:prog.stoodInHeld 34=false:=by kernel_rfl
 have hi:prog.underlying 3=some (.int .i64):=by kernel_rfl
 rw [show (10000:Nat)=9999+1 from rfl,run_equalIn_agg w 9999 34 _ _ hS hp]
 simp only [Program.fieldsOf,underlying34]
 go_simp
 cases h1:(a == c) <;> cases h2:(b == d) <;> simp_all
section
variable {G:World→Prop} {o:Oper} {F:Frm} {H:List Ob} {t':TypeId} {x y:Operand} {a b c d:Int} {r:Bool}
theorem Amz (ho:o.op=.binOp .eql 34 x y t') (hx:F.ev x=.agg [.d (.val (.int .i64 a)),.d (.val (.int .i64 b))]) (hy:F.ev y=.agg [.d (.val (.int .i64 c)),.d (.val (.int .i64 d))]) (hr:(a == c && b == d)=r):AZ prog G o F H (.one (.d (.val (.bool r)))) [] :=
 Amy (xs:=[.int .i64 a,.int .i64 b]) (ys:=[.int .i64 c,.int .i64 d]) ho (by kernel_rfl) (.inl ⟨rfl,hr.symm⟩) hx hy (WS a b c d)
end
def AqT:List Pq:=AmM.set 1 (Af 1 0 (-4))
def exC2:Ct:=⟨WR,Amw,AqT⟩
def AmA:List Rv:=AqT.map DU
theorem AqJ:dCr false WR Aaq AmA=dCt false exC2:=by
 unfold dCr dCt Aaq AmA
 rw [LM,Wp]
 rfl
theorem AqK:∀ r∈AmA,RvL r:=fun r hr=>by
 obtain ⟨a,ha,rfl⟩:=List.mem_map.1 hr
 have key:(AqT.all fun a=>decide ((Ac a.1.natAbs).length≤40000))=true:=by decide +kernel
 exact ⟨AE _,of_decide_eq_true (List.all_eq_true.1 key a ha)⟩
theorem AqL:ckE flP flB flO WR Aaq AmA=0:=by decide +kernel
theorem AjL:vfE flP flB flO WR Aaq AmA=false∧vfP flP flB flO WR Aaq AmA=(3,1):=by decide +kernel
theorem AeM:∀ d∈dDg false flP flB flO,DY d:=fun d hd=>by
 simp only [dDg,cr,ct,or_false] at hd
 rcases hd with rfl|rfl|rfl
 ·refine .row fun d hd=>?_
  simp [flP,An,Ahz] at hd
  rcases hd with rfl|rfl|rfl <;> exact .val _
 ·refine .row fun d hd=>?_
  obtain ⟨l,hl,hd⟩:=List.mem_flatten.1 hd
  obtain ⟨b,_,rfl⟩:=List.mem_map.1 hl
  simp only [dBk,cr,ct,or_false] at hd
  rcases hd with rfl|rfl|rfl|rfl|rfl|rfl
  ·exact .val _
  ·exact .row (Gr _)
  all_goals exact .val _
 ·exact .row (Gr _)
theorem WT (t:Bool) (ns:List Int) (hn:∀ z∈ns,-1000≤z∧z≤1000) (hl:ns.length≤1000000):CVN prog Ah 75 [.one (AU t ns)] [⟨43,3,(eiV ns).length,An dyP (eiV ns)⟩] (.one (.own 0 (eiV ns).length)):=by
 refine Ny NL func75 rfl ntmps75 (ax rfl) ?_
 repeat' (with_reducible first|refine qq ?_|(refine Tx 0 ?_;refine gO xA ?_)|(refine Tx 1 ?_;refine gO xA ?_))
 refine AJ (Fh 3 43 3 rfl) ?_
 repeat' (with_reducible first|refine qq ?_|(refine Tx 2 ?_;refine gO xM <| gO xN <| gO xM ?_))
 refine AJ (Be 1) (Al (fun n Fr H=>∃ k:Nat,k≤ns.length∧n=ns.length - k∧Fr=ofL [(3,vo 0 (((eiV ns).take k).length)),(6,vd (AU t ns)),(7,vi ns.length),(8,vi ((k:Nat)))]∧H=[.row 43 3 ((eiV ns).take (k)).length ((An dyP ((eiV ns).take (k))).map C.d)]) (n0:=ns.length) ⟨0,ad _,rfl,rfl,rfl⟩ ?_)
 rintro n Fr H ⟨k,hk,rfl,rfl,rfl⟩
 by_cases hlt:k<ns.length
 case pos =>
  obtain ⟨z,hz⟩:∃ z,ns[k]?=some z:=⟨_,gE hlt⟩
  have hb:=hn z (gM hz)
  have OF:=Nd (G:=Ah) z (by omega) (by omega)
  have SH:=Ee (G:=Ah) false z 0 (-3) ⟨by decide,fun h=>absurd rfl h⟩ (lT (Aw (k:=2) (by omega)) (by decide)) (by omega)
  obtain ⟨hap,hap2,hoL⟩:=Mr (Asf hz)
  repeat' (with_reducible first|refine qq ?_|(refine Tx 3 ?_;refine gO xLt ?_)|(refine Tx 4 ?_;refine gO (xIr Ae (Ay hz)) <| gO xD <| gO xA ?_)|(refine Tx 5 ?_;refine gO xM <| gO xM <| gO (xCl func34 (OF.cv)) <| gO (xCl func33 (SH.cv)) <| gN (by exact BH rfl Ag Aj rfl rfl (by decide) (by decide)) <| gT (by exact Mj rfl rfl rfl rfl rfl rfl Ag Aj (by omega) (by decide) (by decide) rfl hap hap2) <| gO xA ?_)|(refine Tx 6 ?_;refine gO xAd <| gO xM ?_))
  refine ⟨_,_,Be 1,_,?_,k+1,by omega,rfl,rfl,rfl⟩
  ·omega
 obtain rfl:k=ns.length:=by omega
 have hel:(eiV ns).length=ns.length:=af ..
 rw [←hel,aq]
 repeat' (with_reducible first|refine qq ?_|(refine Tx 3 ?_;refine gO xLt ?_)|(refine Tx 7 ?_;refine gO xM <| gO xA ?_))
 exact ⟨.inl rfl,[0],by decide,.cons_ ⟨rfl,Ox _⟩ .nil_,.tmp results75 rfl ⟨0,_,rfl,rfl,rfl,rfl⟩⟩
theorem Zb (h:p:=by first|exact xCl func74 (I1)|exact xCl func74 (I2)):p:=h
theorem WV  : CVN prog Ah 32 [] [⟨3,1,4,WR.map dI⟩,⟨45,6,4,An (dIw false) Amw⟩,⟨43,3,4,An dyP AmM⟩] (.agg [.own 0 4,.own 1 4,.own 2 4]):=by
 refine Ny NL func32 rfl ntmps32 (ax rfl) ?_
 have I1:=UC (-1) 1 (by decide) (by decide)
 have I2:=UC (-2) 2 (by decide) (by decide)
 have EI:=WT true [0,1,1,1] (by decide) (by decide)
 repeat' (with_reducible first|refine qq ?_|(refine Tx 0 ?_;refine gN (xAl DZ) ?_)|(refine Tx 1 ?_;refine gN (by exact ED rfl rfl Ae CC (by decide) (by decide) (by decide) rfl rfl rfl) <| gO Zb <| gO Zb <| gO Zb <| gO Zb <| gN (by exact ED rfl rfl Ad Ai (by decide) (by decide) (by decide) rfl rfl rfl) <| gN (by exact ED rfl rfl Ae CC (by decide) (by decide) (by decide) rfl rfl rfl) <| gN (by exact Aei rfl func75 (by kernel_rfl) (by with_unfolding_all exact rfl) EI (by with_unfolding_all first|((repeat' first|exact Br rfl rfl|refine AO rfl rfl ?_ ?_|refine Dn rfl rfl ?_|refine Cf rfl rfl ?_|exact Bi rfl (fun h=>by cases h)|exact GL rfl rfl|exact cexp_e rfl rfl|refine Dc rfl rfl rfl ?_) <;> fail)|fail)) <| gO (by exact AF rfl EO rfl rfl) <| gZ (xSk Bd) ?_))
 exact ⟨.inl rfl,[1,2,4],by decide,.cons_ ⟨rfl,Gr _⟩ (.cons_ ⟨rfl,Qj⟩ (.cons_ ⟨rfl,Ox _⟩ .nil_)),AeL Bd results32 rfl rfl rfl (.cons_ ⟨1,_,rfl,rfl,rfl,rfl⟩ (.cons_ ⟨2,_,rfl,rfl,rfl,rfl⟩ (.cons_ ⟨4,_,rfl,rfl,rfl,rfl⟩ .nil_)))⟩
theorem AjM (h:p:=by first|exact Dz rfl Am rfl (Qn rfl)|exact Dz rfl Am rfl (Qn (by first|rfl|omega))|exact Dz rfl Am rfl (TU (by first|assumption|omega))|exact Dz rfl Am rfl rfl):p:=h
theorem Aar  : CV prog Ah 10 [] [aB true]:=by
 refine cvz func10 ntmps10 ?_
 have FC:=AdL
 have XC:=WV
 have VC1:=LS false AjJ WR Aaq Amx AqI Ash (by decide) (by decide) (by decide)
 rw [Asj,Asi,Asg] at VC1
 generalize vfP flP flB flO WR Aaq Amx=e1 at VC1
 have VC2:=LS false AjJ WR Aaq AmA AqI AqK (by decide) (by decide) (by decide)
 rw [AjL.1,AjL.2,AqL,AqJ] at VC2
 have OF:=Nd (G:=Ah) 1 (by decide) (by decide)
 have SH:=Ee (G:=Ah) false 1 0 (-4) ⟨by decide,fun h=>absurd rfl h⟩ (by decide +kernel) (by decide)
 repeat' (with_reducible first|refine qq ?_|(refine Tx 0 ?_;refine gO xA ?_)|(refine Tx 1 ?_;refine gO (xCl func31 (FC)) ?_;refine Jl (by exact Aej rfl func32 (by kernel_rfl) (by with_unfolding_all exact rfl) XC (by with_unfolding_all first|((repeat' first|exact Br rfl rfl|refine AO rfl rfl ?_ ?_|refine Dn rfl rfl ?_|refine Cf rfl rfl ?_|exact Bi rfl (fun h=>by cases h)|exact GL rfl rfl|exact cexp_e rfl rfl|refine Dc rfl rfl rfl ?_) <;> fail)|fail)) ?_;refine gN (xAl QI) <| gN (xAl DZ) <| gZ (xSk DM) <| gZ (xSk Bd) ?_)|(refine Tx 2 ?_;refine gO xL <| gO xL <| gO (by exact IG rfl func6 (by kernel_rfl) (by with_unfolding_all exact rfl) rfl VC1 (by with_unfolding_all exact AO rfl rfl ⟨false,Cf rfl rfl (EM rfl AeM)⟩ (AO rfl rfl ⟨false,Cf rfl rfl (AO rfl rfl (Dc rfl rfl rfl (EM rfl (Gr WR))) (AO rfl rfl (Dc rfl rfl rfl (EM rfl Qj)) (AO rfl rfl (Dc rfl rfl rfl (EM rfl (Ox AmM))) (Br rfl rfl))))⟩ (Br rfl rfl)))) <| gO xMt <| gO xEx <| gO (by exact CQ rfl rfl rfl) <| gO xEx <| gN (xAl CN) <| gO xA <| gZ (xSk AV) <| gO xA ?_)|(refine Ax (id:=3) 5 AC (by kernel_rfl) ?_;dsimp only [List.take,List.drop];refine gP xF <| gP xD <| gP (xCl func34 (OF.cv)) <| gP (xCl func33 (SH.cv)) <| gP (xIo (i:=1) Ag) ?_;refine Ke ?_;refine gZ (xSk Aa) ?_)|(refine Tx 4 ?_;refine gO xL <| gO xL <| gO (by exact IG rfl func6 (by kernel_rfl) (by with_unfolding_all exact rfl) rfl VC2 (by with_unfolding_all exact AO rfl rfl ⟨false,Cf rfl rfl (EM rfl AeM)⟩ (AO rfl rfl ⟨false,Cf rfl rfl (AO rfl rfl (Dc rfl rfl rfl (EM rfl (Gr WR))) (AO rfl rfl (Dc rfl rfl rfl (EM rfl Qj)) (AO rfl rfl (Dc rfl rfl rfl (EM rfl (Ox AqT))) (Br rfl rfl))))⟩ (Br rfl rfl)))) <| gO xMt <| gO xEx <| gO (by exact CQ rfl rfl rfl) <| gO xEx <| gN (xAl CN) <| gO xA <| gZ (xSk AV) <| gO xA ?_)|(refine Tx 5 ?_;refine gO xM <| gO AjM <| gO xM ?_;(first|iterate 2 refine Jd ?_|(refine Jy xM1 ?_;refine Jy AjM ?_));refine gO xPk <| gO xM ?_;(first|refine Jd ?_|refine Jy xM1 ?_);refine gO xPk <| gO xM ?_;(first|iterate 2 refine Jd ?_|(refine Jy xM1 ?_;refine Jy Eo ?_));refine gO xPk <| gO xM ?_;(first|iterate 3 refine Jd ?_|(refine Jy (xLa AV) ?_;refine Jy (by exact AF rfl Cr rfl rfl) ?_;refine Jy (by first|exact Amz rfl rfl rfl rfl|exact xEq) ?_));refine gO xPk <| gO xA ?_))
 exact Ll
theorem Rp (k:p') (h:Hd9 p'→p:=by with_reducible first|(intro Z9;refine qq ?_;exact Z9.o)|(intro Z9;refine Tx 0 ?_;refine gN xBo <| gO xA ?_;exact Z9.o)|(intro Z9;refine Tx 1 ?_;refine gO (xCl func10 (AW)) <| gO Eo <| gO xM ?_;(first|iterate 3 refine Jd ?_|(refine Jy (xLa DM) ?_;refine Jy (xCl func11 (LT)) ?_;refine Jy Eo ?_));refine gO xPk <| gO xM ?_;(first|iterate 4 refine Jd ?_|(refine Jy (xFa CU Bt) ?_;refine Jy (xLd Bt) ?_;refine Jy (xLn Ak) ?_;refine Jy xGt ?_));refine gO xPk ?_;exact Z9.o)|fail):p:=h ⟨k⟩
theorem Zc (k:p') (h:Hd9 p'→p:=by with_reducible first|(intro Z9;refine Tx 4 ?_;refine gO xL <| gO (xCl func13 (CK)) <| gO xA ?_;exact Z9.o)|(intro Z9;refine Tx 5 ?_;refine gO xM <| gO xNe ?_;exact Z9.o)|fail):p:=h ⟨k⟩
theorem AjN (h:p:=by first|exact XO rfl underlying4 rfl rfl rfl|exact xEq):p:=h
theorem AjO (k:p') (h:Hd9 p'→p:=by with_reducible first|(intro Z9;refine Tx 8 ?_;refine gO xM <| gO (xCl func14 (NU)) <| gO xM <| gO xEq <| gO xM ?_;(first|iterate 3 refine Jd ?_|(refine Jy xM1 ?_;refine Jy xM1 ?_;refine Jy AjN ?_));refine gO xPk <| gO xM ?_;(first|iterate 3 refine Jd ?_|(refine Jy (xLa Bd) ?_;refine Jy (xLa Bd) ?_;refine Jy (xCl func15 (SZ)) ?_));refine gO xPk <| gO xA ?_;exact Z9.o)|fail):p:=h ⟨k⟩
theorem AjP (h:p:=by first|exact Aeg rfl rfl rfl|exact CQ rfl rfl rfl):p:=h
theorem AjQ (k:p') (h:Hd9 p'→p:=by with_reducible first|(intro Z9;refine Tx 3 ?_;refine gO xL <| gO xM ?_;refine Jl (by exact FN rfl func12 (by kernel_rfl) (by with_unfolding_all exact rfl) MK (by with_unfolding_all first|((repeat' first|exact Br rfl rfl|refine AO rfl rfl ?_ ?_|refine Dn rfl rfl ?_|refine Cf rfl rfl ?_|exact Bi rfl (fun h=>by cases h)|fail) <;> fail)|fail)) ?_;refine gO Za <| gO AjP <| gO Nz <| gO Nz <| gN (xAl DZ) <| gZ (xSk Bd) <| gO xA <| gO xA ?_;exact Z9.o)|(intro Z9;refine Tx 7 ?_;refine gO xL <| gO xM ?_;refine Jl (by exact FN rfl func16 (by kernel_rfl) (by with_unfolding_all exact rfl) MD (by with_unfolding_all first|((repeat' first|exact Br rfl rfl|refine AO rfl rfl ?_ ?_|refine Dn rfl rfl ?_|refine Cf rfl rfl ?_|exact Bi rfl (fun h=>by cases h)|fail) <;> fail)|fail)) ?_;refine gO Za <| gO AjP <| gO Nz <| gO Nz <| gN (xAl DZ) <| gZ (xSk Bd) <| gO xA <| gO xA ?_;exact Z9.o)|fail):p:=h ⟨k⟩
theorem LV (ps:List Prt) (bs:List Bk) (os:List Int) (rd:Int):CV prog Ah 4 [aDg true ps bs os,aI rd] [aB true]:=by
 refine cvz func4 ntmps4 ?_
 have AW:=Aar
 have LT:=Agw ps bs os
 cases h1:Nv ps bs os
 case false =>
  rw [h1] at LT
  repeat' (with_reducible first|refine Rp ?_|(refine Tx 2 ?_;refine gO (xCl func10 (AW)) <| gO xA ?_))
  exact Ll
 rw [h1] at LT
 have hl:=(Add h1).1
 have hn:=hl.l2
 have hpn:=hl.l1
 by_cases h24:bs.length≤24
 case neg =>
  repeat' (with_reducible first|refine Rp ?_|(refine Tx 2 ?_;refine gO (xCl func10 (AW)) <| gO xA ?_))
  exact Ll
 have CK:=Ada true hl
 have SZ:=WQ
 by_cases h0:AY ps bs os=0
 case neg =>
  have MK:=Ro true hl rd (fun h=>absurd h h0)
  rw [if_neg h0] at MK
  have NU:=(Ade (AY ps bs os)).cv
  repeat' (with_reducible first|refine Rp ?_|(refine Tx 3 ?_;refine gO xL <| gO xM <| gO (xCl func12 (MK)) <| gO xMt <| gO (by exact CQ rfl rfl rfl) <| gO xEx <| gO xEx <| gN (xAl DZ) <| gZ (xSk Bd) <| gO xA <| gO xA ?_)|refine Zc ?_|(refine Tx 6 ?_;refine gO xM <| gO (xCl func14 (NU)) <| gO xM <| gO xEq <| gO xM ?_;(first|iterate 2 refine Jd ?_|(refine Jy xM1 ?_;refine Jy Eo ?_));refine gO xPk <| gO xM ?_;(first|iterate 3 refine Jd ?_|(refine Jy (xLa Bd) ?_;refine Jy (by exact AF rfl EO rfl rfl) ?_;refine Jy (xCl func15 (SZ)) ?_));refine gO xPk <| gO xA ?_))
  exact Ll
 rw [h0] at CK
 by_cases hr:1≤rd∧rd≤16
 case neg =>
  have MK:=Ro true hl rd (fun _=>hr)
  rw [if_pos h0] at MK
  have MD:=WP true (ps:=ps) (bs:=bs) (os:=os) rd hr
  have NU:=(Ade 3).cv
  repeat' (with_reducible first|refine Rp ?_|(refine Tx 3 ?_;refine gO xL <| gO xM <| gO (xCl func12 (MK)) <| gO xMt <| gO (by exact CQ rfl rfl rfl) <| gO xEx <| gO xEx <| gN (xAl DZ) <| gZ (xSk Bd) <| gO xA <| gO xA ?_)|refine Zc ?_|(refine Tx 7 ?_;refine gO xL <| gO xM <| gO (xCl func16 (MD)) <| gO xMt <| gO (by exact CQ rfl rfl rfl) <| gO xEx <| gO xEx <| gN (xAl DZ) <| gZ (xSk Bd) <| gO xA <| gO xA ?_)|refine AjO ?_)
  exact Ll
 obtain ⟨f,e,l,hf,hres,hI⟩:=AdN h0 hl rd hr.2
 have MK:=Aak true hl h0 rd hr.1 hr.2 hf hres hI
 have MD:=WO true hl h0 rd hr.1 hr.2 hf hres hI
 have NU:=(Ade 0).cv
 rcases hmk:mkC ps bs os e l with _|c
 case none =>
  rw [hmk] at MK MD
  repeat' (with_reducible first|refine Rp ?_|refine AjQ ?_|refine Zc ?_|refine AjO ?_)
  exact Ll
 rw [hmk] at MK MD
 obtain ⟨A,hF,hR,sR,hE,hv⟩:=Amp h0 hI hmk
 have SM:=Aap false false c sR (WB hE.sm) (by rw [hF.len];exact hn) (by rw [hR];exact hn) (by rw [hE.len];exact hn)
 unfold dCt AU at SM
 try dsimp only at SM
 rw [hF.len,hE.len,hR] at SM
 repeat' (with_reducible first|refine Rp ?_|refine AjQ ?_|refine Zc ?_|(refine Tx 8 ?_;refine gO xM <| gO (xCl func14 (NU)) <| gO xM <| gO xEq <| gO xM ?_;(first|iterate 3 refine Jd ?_|(refine Jy xM1 ?_;refine Jy xM1 ?_;refine Jy AjN ?_));refine gO xPk <| gO xM ?_;(first|iterate 3 refine Jd ?_|(refine Jy (xLa Bd) ?_;refine Jy (xLa Bd) ?_;refine Jy (by exact IG rfl func15 (by kernel_rfl) (by with_unfolding_all exact rfl) rfl SM (by with_unfolding_all exact AO rfl rfl ⟨false,Cf rfl rfl (AO rfl rfl (Dc rfl rfl rfl (Fe rfl (Di _))) (AO rfl rfl (Bi rfl (fun _=>.row (BV (f:=dIw false) Eh _))) (AO rfl rfl (Dc rfl rfl rfl (Fe rfl (Ej _))) (Br rfl rfl))))⟩ (AO rfl rfl ⟨false,Cf rfl rfl (AO rfl rfl (Bi rfl (fun _=>.row (Di _))) (AO rfl rfl (Bi rfl (fun _=>.row (BV (f:=dIw false) Eh _))) (AO rfl rfl (Dc rfl rfl rfl (Fe rfl (Ej _))) (Br rfl rfl))))⟩ (Br rfl rfl)))) ?_));refine gO xPk <| gO xA ?_))
 exact Ll
open Go.ChangeShapes Go.WideShapes Go.ChangeAt Go.Joins Go.Deep
def AmB (w:World):EN:=fun t b=>t=true∧b<w.heap.size
theorem AeN {A:Option Addr} {s n c:Nat} {cs:List D} {xs:List Value} (h:Aq w w.heap.size A xs) (hc:n≤c) (hA:A=none→c=0) (hl:cs.length=n*s) (hr:Ba (Bx w (AmB w)) cs xs):Bx w (AmB w) (.row true s n cs) (.slice A n c):=by
 refine .row xs hc hA hl hr.1 (fun hne=>?_) hr.2
 obtain ⟨b,off,h1,_,h2,h3⟩:=h (fun h0=>hne (by have:=hr.1;rw [h0] at this;exact bz (by simpa using this)))
 exact ⟨b,off,h1,⟨rfl,h2⟩,h3⟩
theorem Ahf {zs:List Int}:∀ v∈NV zs,v.oneCell'=true:=fun v hv=>by
 obtain ⟨z,_,rfl⟩:=List.mem_map.1 hv
 rfl
theorem AeO {A:Option Addr} {zs:List Int} {c:Nat} (h:Aq w w.heap.size A (NV zs)) (hc:zs.length≤c) (hA:A=none→c=0):Bx w (AmB w) (AU true zs) (.slice A zs.length c):=by
 unfold AU
 rw [AnU]
 exact AeN h hc hA (by simp [NV]) (XJ Ahf)
theorem AmC {ps:List Prt}:∀ v∈Tg Prt.cells ps,v.oneCell'=true:=fun v hv=>by
 obtain ⟨l,hl,hv⟩:=List.mem_flatten.1 hv
 obtain ⟨p,_,rfl⟩:=List.mem_map.1 hl
 simp only [Prt.cells,cr,ct,or_false] at hv
 rcases hv with rfl|rfl|rfl <;> rfl
theorem Vl {α:Type} {f:α→List Value} {s:Nat} (hf:∀ x,(f x).length=s):∀ l:List α,(Tg f l).length=l.length*s
 | []=>by simp [Tg]
 | x::l=>by
  have ih:=Vl hf l
  unfold Tg at ih ⊢
  rw [bp,gg,ao,ih,hf,bw,bk]
  omega
theorem AmD {A:Option Addr} {ps:List Prt} {c:Nat} (h:Aq w w.heap.size A (Tg Prt.cells ps)) (hc:ps.length≤c) (hA:A=none→c=0):Bx w (AmB w) (CY true ps) (.slice A ps.length c):=by
 unfold CY
 rw [ZA AbM]
 exact AeN h hc hA (by rw [af];exact Vl (f:=Prt.cells) (s:=3) (fun _=>rfl) ps) (XJ AmC)
theorem AjR {w:World}:∀ {bs:List Bk},(∀ b∈bs,Aq w w.heap.size b.A (NV b.args)∧b.args.length≤b.cap∧(b.A=none→b.cap=0))→Ba (Bx w (AmB w)) (An (dBk true) bs) (Tg Bk.cells bs)
 | [],_=>.nil_
 | b::bs,h=>by
  have ih:=AjR (w:=w) (bs:=bs) fun x hx=>h x (by simp [hx])
  obtain ⟨h1,h2,h3⟩:=h b (by simp)
  exact .cons_ (.val rfl) (.cons_ (AeO h1 h2 h3) (.cons_ (.val rfl) (.cons_ (.val rfl) (.cons_ (.val rfl) (.cons_ (.val rfl) ih)))))
theorem AeP (t:Bool):∀ bs:List Bk,(An (dBk t) bs).length=bs.length*6
 | []=>rfl
 | b::bs=>by
  have ih:=AeP t bs
  show (An (dBk t) ([b]++bs)).length=_
  rw [OW,ao,ih,bw,bk]
  show 6+bs.length*6=_
  omega
section
variable {H:Type} {enc:TypeId × Value→H} {w:World} {spare:Nat→Bool} {held:Bool}
theorem Ahg {r:Go.Reach} {b0:Nat} {v:Value} {d:DataW H} {p:List MemPlace} (hv:Value.okWide prog w r b0 26 v) (h:DataW.Trod enc prog w 0 spare held 26 v d p) :
  ∃ (ps:List Prt) (bs:List Bk) (os:List Int),Ft w (AmB w) (aDg true ps bs os) v:=by
 obtain ⟨v0,v1,v2,y0,y1,y2,m,rfl,rfl,rfl,g0,g1,g2⟩:=open_agg3 underlying26 (by kernel_rfl) (by kernel_rfl) hv h
 obtain ⟨A1,c1,ps,rfl,n1,k1,l1,h1,b1⟩:=Ua AnT VU (fun _=>rfl) (by decide) underlying22 underlying61 (by kernel_rfl) (QK (by kernel_rfl)) (by kernel_rfl) rfl g0
 obtain ⟨A2,c2,bs,e2,l2,h2,b2⟩:=Ue g1
 obtain ⟨A3,c3,os,rfl,n3,k3,l3,h3,b3⟩:=Mk underlying24 underlying3 (by kernel_rfl) g2
 have hs:(A2=none→c2=0)∧bs.length≤c2:=by
  rcases open_slice underlying23 g1 with ⟨hcs,_⟩|⟨a,len,cap,m,n,D,Pl,hcs,_,hl,hm,hmm,_,hx⟩
  ·have e3:v1=.slice none 0 0:=by simpa using hcs
   rw [e2] at e3
   simp only [Value.slice.injEq] at e3
   exact ⟨fun _=>e3.2.2,by omega⟩
  ·have e3:v1=.slice (some a) len cap:=by simpa using hcs
   rw [e2] at e3
   simp only [Value.slice.injEq] at e3
   exact ⟨fun h0=>(by rw [e3.1] at h0;cases h0),by omega⟩
 refine ⟨ps,bs,os,[.slice A1 ps.length c1,v1,.slice A3 os.length c3],rfl,?_⟩
 rw [e2]
 exact .cons_ (AmD h1 k1 n1) (.cons_ (AeN h2 hs.2 hs.1 (AeP true bs) (AjR fun b hb=>⟨(b2 b hb).2.2.2.1,(b2 b hb).2.1,(b2 b hb).1⟩)) (.cons_ (AeO h3 k3 n3) .nil_))
end
def AqU (w:World):EN:=fun _ b=>b<w.heap.size
theorem AqU.of {x:A} {v:Value} (h:Ft w (AmB w) x v):Ft w (AqU w) x v:=h.mono (fun _ _ hb=>hb.2) fun _ _ _=>rfl
theorem AmE {f:FuncId} {args:List A} (h:CV prog Ah f args [aB true]) {w:World} (ht:Ah w) {vs:List Value} (ha:Ba (Ft w (AqU w)) args vs) :
  Calls prog f vs.toArray w fun e w'=>e=.returned (.bool true)∧Below w.heap.size w w' :=
 (h w _ vs ht (fun t b hb=>hb) ha).mono fun e w' ⟨v,h1,h2,h3⟩=>by
  have h4:Bx w' _ (dB true) v:=h2
  cases h4
  exact ⟨h1,h3⟩
structure RowA (α:Type) (s:Nat) where
 cs:List Value
 len:cs.length=s
 a:α
instance {α:Type} {s:Nat} [Inhabited α]:Inhabited (RowA α s):=⟨⟨List.replicate s undef,ep,default⟩⟩
section
variable {H:Type} {enc:TypeId × Value→H} {w:World} {spare:Nat→Bool} {held:Bool}
instance:Inhabited Rv:=⟨⟨false,[],0⟩⟩
end
end Go.Proofs.YtjlkgfeepocjfaaGreatDoor
