/- What the proofs of this claim share, part 6. No conditions. -/
import Derived.Test.YtmdfjbpggbhgnaaGreatDoorAt3
import Derived.Test.YtmdfjbpggbhgnaaGreatDoorAt5
import Derived.Test.YtmdfjbpggbhgnaaGreatDoorAt4
import Derived.Test.YtmdfjbpggbhgnaaGreatDoorRows
import Derived.Laws.AppendOwnNone
import Derived.Laws.OwnMore
import Derived.Laws.Bits64b
import Derived.Deep.RegionHeld3
import Derived.Deep.DeepCutAuto
import Derived.Lib.Hide
set_option maxHeartbeats 8000000
set_option maxRecDepth 100000
set_option linter.all false
open Go.Proofs.Tryz
namespace Go.Proofs.YtmdfjbpggbhgnaaGreatDoor
open Go.RowKit Go.Deep
variable {W w w':World} {B L b base c c' cy d den g hi i k lo m n r t y z:Nat} {A:Option Addr} {a os ws xs:List Nat} {v v0 v1 v2:Value} {p:Prop} {ops:Array Oper} {rest:List Oper} {o:Oper} {Q:Exit→Act→World→Prop} {vs:List Value} {nb neg:Bool} {x:Int} {tmps:Array Value}
def w32 (ws:List Nat):List Value:=ws.map fun n:Nat=>.int .u32 (n:Int)
theorem Rx (ws:List Nat):(w32 ws).length=ws.length:=by simp [w32]
theorem Aj.w32_ (h:Aj w m A (w32 ws)) {k:Nat} (hk:k<ws.length) :
  ∃ b off z,A=some ⟨b,off,none⟩∧b<m∧b<w.heap.size∧ws[k]?=some z∧w.cell? ⟨b,off+k,none⟩=some (.int .u32 (z:Int)):=by
 obtain ⟨b,off,hA,hbm,hbs,hc⟩:=h (fun h0=>by have:=Rx ws;rw [h0] at this;simp at this;omega)
 exact ⟨b,off,ws[k],hA,hbm,hbs,gE hk,hc k _ (by simp [w32,hk])⟩
def Ar:List Nat→Nat
 | []=>0
 | x::l=>x+4294967296*Ar l
def An (ws:List Nat):Prop:=∀ x∈ws,x<4294967296
def CL (ws:List Nat):Nat→Nat
 | 0=>0
 | n+1=>if ws[n]?.getD 0=0 then CL ws n else n+1
def Gn (ws:List Nat):List Nat:=ws.take (CL ws ws.length)
theorem Df (ws:List Nat) (n:Nat):CL ws n≤n:=by
 induction n with
 | zero=>exact aa _
 | succ n ih =>
  unfold CL
  split <;> omega
theorem BN (ws:List Nat):(Gn ws).length=CL ws ws.length:=by
 have:=Df ws ws.length
 simp [Gn]
 omega
theorem Bu (a b:List Nat):Ar (a++b)=Ar a+4294967296 ^ a.length*Ar b:=by
 induction a with
 | nil=>simp [Ar]
 | cons x a ih =>
  simp only [List.cons_append,Ar,bl,ih,az,cz]
  rw [fv,aq (4294967296 ^ a.length) 4294967296,al]
theorem PI (ws:List Nat):∀ n,n≤ws.length→Ar (ws.take (CL ws n))=Ar (ws.take n)
 | 0,_=>rfl
 | n+1,h=>by
  unfold CL
  split
  ·rename_i h0
   rw [PI ws n (by omega),bg,Bu]
   have:ws[n]?=some ws[n]:=gE (by omega)
   rw [this] at h0 ⊢
   simp at h0
   simp [Ar,h0]
  ·rfl
theorem VW (ws:List Nat):Ar (Gn ws)=Ar ws:=by
 have:=PI ws ws.length (aa _)
 rw [bh] at this
 exact this
theorem Td (ws:List Nat):∀ n,n≤ws.length→0<CL ws n→ws[CL ws n - 1]?.getD 0≠0
 | 0,_,h=>by simp [CL] at h
 | n+1,hn,h=>by
  unfold CL at h ⊢
  split at h
  ·rename_i h0
   rw [if_pos h0]
   exact Td ws n (by omega) h
  ·rename_i h0
   rw [if_neg h0]
   simpa using h0
def Agq (w:World) (ws:List Nat) (i:Value) (wr:World):Prop:=∃ k:Nat,k≤ws.length∧i=.int .i64 k∧CL ws k=CL ws ws.length∧w=wr
theorem AbC:(prog.info? 126).map (fun i=>(i.zero,i.size,i.bytes))=some (some (.int .u32 0),1,4):=by kernel_rfl
theorem Gp:prog.underlying 41=some (.slice 126):=by kernel_rfl
def CQ (w:World) (base:Nat) (v:Value) (xs:List Nat):Prop:=w.ownsRow base 126 1 v xs.length (w32 xs)
theorem CQ.nil_ (w:World) (base:Nat):CQ w base (.slice none 0 0) []:=World.ownsRow_nil w base _ _
theorem CQ.lit0 (h:base≤w.heap.size):CQ (w.alloc (.cells #[] 126)) base (.slice (some ⟨w.heap.size,0,none⟩) 0 0) []:=World.ownsRow_made w #[] 0 h (ad _) rfl
theorem CQ.view (h:CQ w base v xs):∃ A c,v=.slice A xs.length c∧(A=none→c=0)∧Aj w w.heap.size A (w32 xs):=by
 rcases h.2 with ⟨rfl,h0⟩|⟨g,cap,cur,rfl,hb,hg,hn,hm,hs,ht⟩
 ·have:xs=[]:=bw h0
  subst this
  exact ⟨none,0,rfl,fun _=>rfl,Aj.nil_⟩
 ·have hlt:=(World.ownsRow.lt h g rfl).2
  refine ⟨some ⟨g,0,none⟩,cap,rfl,by simp,fun _=>⟨g,0,rfl,hlt,hlt,fun j u hu=>?_⟩⟩
  have:=World.ownsRow.cells h (g:=g) rfl j u hu
  rcases j with _|j
  ·simpa [Addr.add] using this
  ·simpa [Addr.add] using this
theorem ze8f (h:p:=by
 obtain ⟨b',off',hA,_,_,hcc⟩:=hc (fun h0=>by rw [h0] at hu;simp at hu)
 cases hA
 have hu':=hcc j u hu
 rcases j with _|j
 ·simpa [Addr.add] using hu'
 ·simpa [Addr.add] using hu'):p:=h
theorem Agr {a:Act} (hgd:o.guard=none) (s x:Operand)
  (ho:o.op=.call { callee:=.builtin .append,args:=#[s,x],argTypes:=#[41,41] })
  (base:Nat) (v:Value) (xs ys:List Nat) (A:Option Addr) (c m:Nat) (hs:a.eval s=v) (hown:CQ w base v xs) (hx:a.eval x=.slice A ys.length c) (hn:A=none→c=0) (hc:Aj w m A (w32 ys))
  (hlen:xs.length+ys.length≤1000000) (hbase:base≤w.heap.size)
  (h:∀ v' w',CQ w' base v' (xs++ys)→w.grownBy w' v.ownBlock→Below base w w'→wpList prog ops Q rest (a.put o.dst v') w'):wpList prog ops Q (o::rest) a w:=by
 obtain ⟨i0,hi,hz0,hz1,hz2⟩:=info_parts AbC
 rcases A with _|⟨b,off,l⟩
 ·have hy:ys=[]:=by
   rcases ys with _|⟨y,ys⟩
   ·rfl
   ·obtain ⟨b,off,hA,_⟩:=hc (by simp [w32])
    cases hA
  subst hy
  have hc0:=hn rfl
  subst hc0
  exact wpList_append_own_none hgd s x 41 ho base 126 i0 1 Gp hi v xs.length (w32 xs) hs hown hx (h v w (by rw [bd];exact hown) ⟨rfl,rfl,rfl,aa _,fun _ _ _=>rfl⟩ (ab _ _))
 ·refine wpList_append_own w hgd s x 41 ho base 126 i0 (.int .u32 0) 1 4 Gp hi hz0 hz1 hz2 rfl (by decide) v xs.length (w32 xs) hs hown ⟨b,off,l⟩ ys.length c (w32 ys) hx (by simp [w32]) ?_ ?_ (by unfold maxLen;omega) (by omega) hbase (fun v' w' h1 h2 _=>h v' w' ?_ h2 ((ab base w).grown h2 hbase (fun g hg=>(World.ownsRow.lt hown g hg).1)))
  ·intro j u hu
   exact ze8f
  ·intro u hu
   obtain ⟨z,_,rfl⟩:=List.mem_map.1 hu
   rfl
  ·have e:w32 (xs++ys)=w32 xs++w32 ys:=by simp [w32]
   unfold CQ
   rw [e,am]
   exact h1
theorem CQ.alloc (h:CQ w base v xs) (o:Obj):CQ (w.alloc o) base v xs:=World.ownsRow.alloc h o
theorem CQ.drew (h:CQ w base v xs):CQ w.drew base v xs:=h
theorem CQ.drewN (h:CQ w base v xs) (n:Nat):CQ (w.drewN n) base v xs:=by
 induction n generalizing w with
 | zero=>exact h
 | succ n ih=>exact ih (w:=w.drew) h.drew
theorem Io {a:Act} (hgd:o.guard=none) (s x:Operand)
  (ho:o.op=.call { callee:=.builtin .append,args:=#[s,x],argTypes:=#[41,41] })
  (base:Nat) (v:Value) (xs:List Nat) (z:Nat) (g:Nat) (hs:a.eval s=v) (hown:CQ w base v xs) (hx:a.eval x=.slice (some ⟨g,0,none⟩) 1 1) (hg:w.cell? ⟨g,0,none⟩=some (.int .u32 (z:Int)))
  (hlen:xs.length<1000000) (hbase:base≤w.heap.size)
  (h:∀ v' w',CQ w' base v' (xs++[z])→w.grownBy w' v.ownBlock→Below base w w'→wpList prog ops Q rest (a.put o.dst v') w'):wpList prog ops Q (o::rest) a w:=by
 have hgl:g<w.heap.size:=by
  rcases bu g w.heap.size with h|h
  ·exact h
  ·simp [World.cell?,fd h] at hg
 exact Agr hgd s x ho base v xs [z] _ 1 w.heap.size hs hown hx (by simp) (fun _=>⟨g,0,rfl,hgl,hgl,fun j u hu=>by
  rcases j with _|j
  ·simp [w32] at hu;subst hu;exact hg
  ·simp [w32] at hu⟩) (by simp;omega) hbase h
def Aa (n:Nat):List Nat:=if h:n=0 then [] else n % 4294967296::Aa (n / 4294967296)
termination_by n
decreasing_by exact Nat.div_lt_self (by omega) (by decide)
theorem Ax:Aa 0=[]:=by rw [Aa];simp
theorem Dj (h:n≠0):Aa n=n % 4294967296::Aa (n / 4294967296):=by rw [Aa];simp [h]
theorem Au (n:Nat):An (Aa n):=by
 induction n using Nat.strongRecOn with
 | _ n ih =>
  by_cases h:n=0
  ·subst h;rw [Ax];intro x hx;cases hx
  ·rw [Dj h]
   intro x hx
   rcases List.mem_cons.1 hx with rfl|hx
   ·omega
   ·exact ih _ (Nat.div_lt_self (by omega) (by decide)) x hx
theorem Ao (n:Nat):Ar (Aa n)=n:=by
 induction n using Nat.strongRecOn with
 | _ n ih =>
  by_cases h:n=0
  ·subst h;rw [Ax];rfl
  ·rw [Dj h]
   simp only [Ar]
   rw [ih _ (Nat.div_lt_self (by omega) (by decide))]
   omega
theorem VX (h:Ar ws=0):∀ x∈ws,x=0:=by
 induction ws with
 | nil=>simp
 | cons x l ih =>
  simp only [Ar] at h
  intro y hy
  rcases List.mem_cons.1 hy with rfl|hy
  ·omega
  ·exact ih (by omega) y hy
theorem Nk (h:An ws) (ht:ws≠[]→ws[ws.length - 1]?.getD 0≠0):Aa (Ar ws)=ws:=by
 induction ws with
 | nil=>exact Ax
 | cons x l ih =>
  have hx:=h x (by simp)
  have htop:=ht (by simp)
  have hl:Aa (Ar l)=l:=ih (fun y hy=>h y (by simp [hy])) (fun hne=>by
   have hp:0<l.length:=List.length_pos_iff.2 hne
   have e:(x::l)[(x::l).length - 1]?=l[l.length - 1]?:=by
    rw [show (x::l).length - 1=(l.length - 1)+1 by simp;omega]
    rfl
   rw [e] at htop
   exact htop)
  have hne:Ar (x::l)≠0:=fun h0=>by
   have hz:=VX h0
   apply htop
   have:(x::l)[(x::l).length - 1]?=some ((x::l)[(x::l).length - 1]'(by simp)):=gE _
   rw [this]
   exact hz _ (fe _)
  rw [Dj hne]
  simp only [Ar]
  rw [show (x+4294967296*Ar l) % 4294967296=x by omega,show (x+4294967296*Ar l) / 4294967296=Ar l by omega,hl]
theorem Cd (h:An ws):Gn ws=Aa (Ar ws):=by
 rw [←VW ws]
 refine (Nk (fun x hx=>h x (ed hx)) (fun hne=>?_)).symm
 have hne:Gn ws≠[]:=hne
 show (Gn ws)[(Gn ws).length - 1]?.getD 0≠0
 have hl:=BN ws
 have hp:0<(Gn ws).length:=List.length_pos_iff.2 hne
 have ht:=Td ws ws.length (aa _) (by omega)
 rw [hl]
 show (ws.take (CL ws ws.length))[CL ws ws.length - 1]?.getD 0≠0
 rw [bp,if_pos (by omega)]
 exact ht
theorem Az (h:n<4294967296 ^ k):(Aa n).length≤k:=by
 induction k generalizing n with
 | zero =>
  have:n=0:=by simpa using h
  subst this
  rw [Ax]
  simp
 | succ k ih =>
  by_cases h0:n=0
  ·subst h0;rw [Ax];simp
  ·rw [Dj h0]
   have:=ih (n:=n / 4294967296) (by rw [az] at h;exact Nat.div_lt_of_lt_mul (by rw [aq];exact h))
   simp
   omega
theorem CQ.cap_ (h:CQ w base (.slice A n c) xs):n=xs.length∧n≤c∧(A=none→c=0)∧Aj w w.heap.size A (w32 xs):=by
 have h2:=h.2
 obtain ⟨A',c',he,h1,h3⟩:=h.view
 cases he
 refine ⟨rfl,?_,h1,h3⟩
 rcases h2 with ⟨h0,hn⟩|⟨g,cap,cur,h0,hb,hg,hn,hm,hs,ht⟩
 ·omega
 ·cases h0
  omega
theorem AJ (a:List Nat) (k:Nat):Ar (a.take (k+1))=Ar (a.take k)+4294967296 ^ k*(a[k]?.getD 0):=by
 rw [bg,Bu]
 by_cases h:k<a.length
 ·rw [gE h,eh,ff (by omega)]
  simp [Ar]
 ·rw [dg (by omega)]
  simp [Ar]
theorem Ry {b:List Nat} {x:Nat} (hol:os.length=k) (hx:a[k]?.getD 0=x) (hy:b[k]?.getD 0=y) (hv:Ar os+4294967296 ^ k*cy=Ar (a.take k)+Ar (b.take k)) (hz:z+4294967296*c'=cy+x+y) :
  Ar (os++[z])+4294967296 ^ (k+1)*c'=Ar (a.take (k+1))+Ar (b.take (k+1)):=by
 rw [AJ a,AJ b,hx,hy,Bu,hol,az,al]
 have e1:Ar [z]=z:=by simp [Ar]
 rw [e1]
 have e2:4294967296 ^ k*z+4294967296 ^ k*(4294967296*c')=4294967296 ^ k*cy+4294967296 ^ k*x+4294967296 ^ k*y:=by
  rw [←cz,hz,cz,cz]
 omega
theorem BM (h:An os) (hz:z<4294967296):An (os++[z]):=by
 intro q hq
 rcases List.mem_append.1 hq with hq|hq
 ·exact h q hq
 ·simp at hq
  omega
theorem Aj.takeW (h:Aj w m A (w32 ws)) (n:Nat):Aj w m A (w32 (ws.take n)):=fun hx=>by
 have e:w32 (ws.take n)=(w32 ws).take n:=by simp [w32]
 obtain ⟨b,off,hA,hbm,hbs,hc⟩:=h (fun h0=>hx (by rw [e,h0];simp))
 refine ⟨b,off,hA,hbm,hbs,fun j u hu=>hc j u ?_⟩
 rw [e,bp] at hu
 split at hu
 ·exact hu
 ·cases hu
def Akp (w:World) (a b:List Nat) (v cv i:Value) (wr:World):Prop :=
 ∃ (k:Nat) (os:List Nat) (cy:Nat),k≤max a.length b.length∧i=.int .i64 (k:Int)∧cv=.int .u64 (cy:Int)∧CQ wr w.heap.size v os∧os.length=k∧An os∧cy≤1 ∧
  Ar os+4294967296 ^ k*cy=Ar (a.take k)+Ar (b.take k)∧Below w.heap.size w wr
theorem Br (h:An ws):Ar ws<4294967296 ^ ws.length:=by
 induction ws with
 | nil=>simp [Ar]
 | cons x l ih =>
  have h1:=h x (by simp)
  have h2:=ih (fun y hy=>h y (by simp [hy]))
  simp only [Ar,bl,az]
  omega
theorem Nl {x:Nat} (h:ws[k]?=some x):Ar ws=Ar (ws.take k)+4294967296 ^ k*(x+4294967296*Ar (ws.drop (k+1))):=by
 have hk:=(gS.1 h).1
 have hx:=(gS.1 h).2
 have e:ws=ws.take k++x::ws.drop (k+1):=by
  rw [←hx,←cn hk,eg]
 have hl:(ws.take k).length=k:=by rw [eh];omega
 conv=>lhs;rw [e]
 rw [Bu,hl]
 rfl
theorem PJ {K T1 T2 x D:Nat} (h1:T1<K) (h:x<y):T1+K*(x+D)<T2+K*(y+D):=by
 have h2:K*(x+D+1)≤K*(y+D):=fw K (by omega)
 rw [cz,cj] at h2
 omega
theorem VY {b:List Nat} {x:Nat} (oka:An a) (okb:An b) (hx:a[k]?=some x) (hy:b[k]?=some y) (hd:a.drop (k+1)=b.drop (k+1)) (hne:x≠y):decide (Ar a<Ar b)=decide (x<y):=by
 have ha:=Nl hx
 have hb:=Nl hy
 have hka:=(gS.1 hx).1
 have hkb:=(gS.1 hy).1
 have la:=Br (ws:=a.take k) (fun z hz=>oka z (ed hz))
 have lb:=Br (ws:=b.take k) (fun z hz=>okb z (ed hz))
 rw [eh,ff (by omega)] at la lb
 rw [hd] at ha
 rcases Nat.lt_or_gt_of_ne hne with h|h
 ·have:=PJ (T2:=Ar (b.take k)) (D:=4294967296*Ar (b.drop (k+1))) la h
  rw [←ha,←hb] at this
  rw [decide_eq_true this,decide_eq_true h]
 ·have:=PJ (T2:=Ar (a.take k)) (D:=4294967296*Ar (b.drop (k+1))) lb h
  rw [←ha,←hb] at this
  rw [decide_eq_false (by omega),decide_eq_false (by omega)]
def VZ (a b:List Nat):Bool:=if a.length=b.length then decide (Ar a<Ar b) else decide (a.length<b.length)
def Ags (w:World) (a b:List Nat) (i:Value) (wr:World):Prop:=∃ k nq:Nat,k≤a.length∧i=.int .i64 ((k:Int) - 1)∧a.drop k=b.drop k∧w.drewN nq=wr
theorem PK {b:List Nat} {x:Nat} (hx:a[k]?=some x) (hy:b[k]?=some x) (h:a.drop (k+1)=b.drop (k+1)):a.drop k=b.drop k:=by
 have hka:=(gS.1 hx)
 have hkb:=(gS.1 hy)
 rw [cn hka.1,cn hkb.1,hka.2,hkb.2,h]
theorem Wa {b:List Nat} {br x:Nat} (hol:os.length=k) (hx:a[k]?.getD 0=x) (hy:b[k]?.getD 0=y) (hv:Ar os+Ar (b.take k)=Ar (a.take k)+4294967296 ^ k*br) (hz:z+br+y=x+4294967296*c') :
  Ar (os++[z])+Ar (b.take (k+1))=Ar (a.take (k+1))+4294967296 ^ (k+1)*c':=by
 rw [AJ a,AJ b,hx,hy,Bu,hol,az,al]
 have e1:Ar [z]=z:=by simp [Ar]
 rw [e1]
 have e2:4294967296 ^ k*z+4294967296 ^ k*br+4294967296 ^ k*y=4294967296 ^ k*x+4294967296 ^ k*(4294967296*c'):=by
  rw [←cz,←cz,hz,cz]
 omega
theorem Agt {b:List Nat} {br:Nat} (hol:os.length=a.length) (hok:An os) (hbr:br≤1) (hle:Ar b≤Ar a) (hv:Ar os+Ar b=Ar a+4294967296 ^ a.length*br):Ar os=Ar a - Ar b:=by
 have h:=Br hok
 rw [hol] at h
 rcases bu 0 br with h0|h0
 ·have:br=1:=by omega
  subst this
  rw [cj] at hv
  omega
 ·have:br=0:=by omega
  subst this
  rw [Nat.mul_zero] at hv
  omega
def Akq (w:World) (a b:List Nat) (v cv i:Value) (wr:World):Prop :=
 ∃ (k:Nat) (os:List Nat) (br:Nat),k≤a.length∧i=.int .i64 (k:Int)∧cv=.int .i64 (br:Int)∧CQ wr w.heap.size v os∧os.length=k∧An os∧br≤1 ∧
  Ar os+Ar (b.take k)=Ar (a.take k)+4294967296 ^ k*br∧Below w.heap.size w wr
structure Agu (neg:Bool) (n:Nat) (den:Nat):Prop where
 zero:n=0→neg=false∧den=0
 fine:den≤65536
 odd:den≠0→n % 2=1
theorem Ce (h:n≠0):0<(Aa n).length:=by
 rw [Dj h]
 simp
theorem Nm (h:n≠0):(Aa n)[0]?=some (n % 4294967296):=by
 rw [Dj h]
 rfl
theorem Lx (h:n≠0):(Aa n)[(Aa n).length - 1]?.getD 0≠0:=by
 induction n using Nat.strongRecOn with
 | _ n ih =>
  rw [Dj h]
  by_cases h2:n / 4294967296=0
  ·rw [h2,Ax]
   simp
   omega
  ·have:=ih _ (Nat.div_lt_self (by omega) (by decide)) h2
   have hl:=Ce h2
   rw [show (n % 4294967296::Aa (n / 4294967296)).length - 1=((Aa (n / 4294967296)).length - 1)+1 by simp;omega]
   exact this
def BG (w:World) (b:Nat) (vs:List Value) (t:TypeId):Prop:=w.heap[b]?=some (.cells vs.toArray t (0,0))
theorem BG.lt (h:BG w b vs t):b<w.heap.size:=(Array.getElem?_eq_some_iff.1 h).1
theorem BG.new_ (w:World) (vs:List Value) (t:TypeId):BG (w.alloc (.cells vs.toArray t)) w.heap.size vs t:=heap_alloc_new w _
theorem BG.below (h:BG w b vs t) (hb:Below B w w') (hB:b<B):BG w' b vs t:=(hb.block b hB).trans h
theorem BG.cell (h:BG w b vs t) (j:Nat):w.cell? ⟨b,j,none⟩=vs[j]?:=by
 rw [cell_of_row w b j vs.toArray t (0,0) h]
 simp
theorem BG.free (h:BG w b vs t) (j:Nat):w.frozen? ⟨b,j,none⟩=false:=frozen_of_row w b j vs.toArray t h
theorem BG.set_ (h:BG w b vs t) (j:Nat) (u:Value):BG (w.setCell ⟨b,j,none⟩ u) b (vs.set j u) t:=by
 have:=heap_setCell_same w b j vs.toArray t u h
 simpa [BG] using this
def sgn (neg:Bool) (n:Nat):Int:=if n=0 then 0 else if neg=true then -1 else 1
theorem Wb {x s:Nat} (hc:c<2 ^ s) (hx:x<4294967296) (hs:s≤32):bits .or .u64 (c:Int) ((x*2 ^ s:Nat):Int)=((c+x*2 ^ s:Nat):Int):=by
 have h32:2 ^ s≤2 ^ 32:=ao (by decide) hs
 have hp:x*2 ^ s≤4294967295*2 ^ 32:=ei (by omega) h32
 rw [bits_or_u64_nat c (x*2 ^ s) (by omega) (by omega)]
 have h:=Nat.two_pow_add_eq_or_of_lt hc x
 rw [Nat.or_comm,aq x,←h,Nat.add_comm]
theorem Ot:(prog.info? 126).map (fun i=>(i.zero,i.size,i.bytes))=some (some (.int .u32 0),1,4):=by kernel_rfl
theorem DI (q:Nat):Ar (List.replicate q 0)=0:=by
 induction q with
 | zero=>rfl
 | succ q ih=>rw [jr];simp [Ar,ih]
theorem Ly (q:Nat):An (List.replicate q 0):=fun x hx=>by
 have:=(List.mem_replicate.1 hx).2
 omega
theorem Wc {x p:Nat} (hc:cy<p) (hx:x<4294967296):(cy+x*p) / 4294967296<p:=by
 have h:x*p≤4294967295*p:=Nat.mul_le_mul_right _ (by omega)
 omega
theorem Akr {x p:Nat} (hp:p=2 ^ r) (hc:cy<p) (hx:x<4294967296) (hr:r≤32):bits .or .u64 (cy:Int) (IntKind.u64.wrap ((x:Int)*2 ^ r))=((cy+x*p:Nat):Int):=by
 subst hp
 have h32:2 ^ r≤2 ^ 32:=ao (by decide) hr
 have hb:x*2 ^ r≤4294967295*2 ^ 32:=ei (by omega) h32
 have e:IntKind.u64.wrap ((x:Int)*2 ^ r)=((x*2 ^ r:Nat):Int):=by
  have e1:(x:Int)*2 ^ r=((x*2 ^ r:Nat):Int):=by simp
  rw [e1]
  have:IntKind.u64.wrap ((x*2 ^ r:Nat):Int)=((x*2 ^ r:Nat):Int) % 18446744073709551616:=by simp [IntKind.wrap,IntKind.signed,IntKind.bits]
  rw [this]
  omega
 rw [e]
 exact Wb hc hx hr
theorem Wd {q x p:Nat} (hol:os.length=q+k) (hx:a[k]?.getD 0=x) (hv:Ar os+4294967296 ^ (q+k)*cy=Ar (a.take k)*(4294967296 ^ q*p)) (hz:z+4294967296*c'=cy+x*p) :
  Ar (os++[z])+4294967296 ^ (q+(k+1))*c'=Ar (a.take (k+1))*(4294967296 ^ q*p):=by
 rw [AJ a,hx,Bu,hol,bf,←hv]
 have e1:Ar [z]=z:=by simp [Ar]
 rw [e1,show q+(k+1)=(q+k)+1 by omega,az 4294967296 (q+k),ay]
 have e2:4294967296 ^ q*4294967296 ^ k*z+4294967296 ^ q*4294967296 ^ k*(4294967296*c')=4294967296 ^ q*4294967296 ^ k*cy+4294967296 ^ q*4294967296 ^ k*(x*p):=by
  rw [←cz,hz,cz]
 have e3:4294967296 ^ k*x*(4294967296 ^ q*p)=4294967296 ^ q*4294967296 ^ k*(x*p):=by
  rw [aq (4294967296 ^ q) (4294967296 ^ k),al,al]
  congr 1
  rw [←al,←al,aq x]
 rw [e3,al (4294967296 ^ q*4294967296 ^ k)]
 omega
theorem Lz (n:Nat):2 ^ n=4294967296 ^ (n / 32)*2 ^ (n % 32):=by
 have h:n=32*(n / 32)+n % 32:=by omega
 have e:(4294967296:Nat)=2 ^ 32:=by decide
 rw [e,←dn,←ay,←h]
def Aks (w:World) (a:List Nat) (q p:Nat) (v cv i:Value) (wr:World):Prop :=
 ∃ (k:Nat) (os:List Nat) (cy:Nat),k≤a.length∧i=.int .i64 (k:Int)∧cv=.int .u64 (cy:Int)∧CQ wr w.heap.size v os∧os.length=q+k∧An os∧cy<p ∧
  Ar os+4294967296 ^ (q+k)*cy=Ar (a.take k)*(4294967296 ^ q*p)∧Below w.heap.size w wr
theorem LA (h:An a) (i:Nat):Ar a / 4294967296 ^ i=Ar (a.drop i):=by
 by_cases hi:i≤a.length
 ·have e:=Bu (a.take i) (a.drop i)
  rw [eg,eh,ff hi] at e
  have hl:=Br (ws:=a.take i) (fun x hx=>h x (ed hx))
  rw [eh,ff hi] at hl
  rw [e,gm _ _ (Nat.pow_pos (by decide)),fg hl,bj]
 ·rw [fx (by omega)]
  have hl:=Br h
  refine fg (ai hl (ao (by decide) (by omega)))
theorem DD:Ar (a.drop i)=a[i]?.getD 0+4294967296*Ar (a.drop (i+1)):=by
 by_cases hi:i<a.length
 ·rw [cn hi,gE hi]
  rfl
 ·rw [fx (by omega),fx (by omega),dg (by omega)]
  rfl
theorem Adb (n:Nat):2 ^ n=4294967296 ^ (n / 32)*2 ^ (n % 32):=Lz n
theorem GK (h:An a) (i:Nat):Ar a / 2 ^ i % 2=(a[i / 32]?.getD 0) / 2 ^ (i % 32) % 2:=by
 rw [Adb i,←js,LA h,DD]
 generalize a[i / 32]?.getD 0=x
 generalize Ar (a.drop (i / 32+1))=y
 have e:(4294967296:Nat)=2 ^ (i % 32)*(2*2 ^ (31 - i % 32)):=by
  rw [←gn,←ay,show i % 32+(31 - i % 32).succ=32 by omega]
 rw [show 4294967296*y=2 ^ (i % 32)*(2*(2 ^ (31 - i % 32)*y)) by rw [←al,←al,al (2 ^ (i % 32)),←e]]
 rw [gm _ _ (ba _)]
 omega
def Nn (v i:Nat):Bool:=decide (v % 2 ^ i≠0)
theorem We (v:Nat):Nn v 0=false:=by simp [Nn,Nat.mod_one]
theorem PL (v i:Nat):Nn v (i+1)=(Nn v i || v / 2 ^ i % 2 == 1):=by
 have e:v % 2 ^ (i+1)=v % 2 ^ i+2 ^ i*(v / 2 ^ i % 2):=by
  rw [az,Nat.mod_mul]
 have hp:=ba i
 unfold Nn
 rw [e]
 rcases Nat.mod_two_eq_zero_or_one (v / 2 ^ i) with h|h
 ·rw [h,Nat.mul_zero,bz]
  simp
 ·rw [h,cj]
  have:v % 2 ^ i+2 ^ i≠0:=by omega
  simp [this]
theorem ZF {v j:Nat} (h:v<2 ^ i) (hj:i≤j):Nn v j=Nn v i:=by
 unfold Nn
 rw [dt h,dt (ai h (ao (by decide) hj))]
theorem Adc {x:Nat} (hr:r≤31):(x+4294967296*(y+4294967296*t)) / 2 ^ r % 4294967296=(x+y*4294967296) / 2 ^ r % 4294967296:=by
 have e:(4294967296:Nat)=2 ^ r*2 ^ (32 - r):=by rw [←ay,show r+(32 - r)=32 by omega]
 rw [show x+4294967296*(y+4294967296*t)=(x+y*4294967296)+2 ^ r*(4294967296*(2 ^ (32 - r)*t)) by
  have:4294967296*(4294967296*t)=2 ^ r*(4294967296*(2 ^ (32 - r)*t)):=by
   rw [←al,←al,←al,aq (2 ^ r) 4294967296,al 4294967296 (2 ^ r),←e]
  omega]
 rw [gm _ _ (ba _)]
 omega
theorem Wf (h:An a) (hol:os.length=k) (hv:Ar os=Ar a / 2 ^ n % 4294967296 ^ k)
  (hz:z=(a[n / 32+k]?.getD 0+a[n / 32+k+1]?.getD 0*4294967296) / 2 ^ (n % 32) % 4294967296) :
  Ar (os++[z])=Ar a / 2 ^ n % 4294967296 ^ (k+1):=by
 rw [Bu,hol,hv,az,Nat.mod_mul]
 congr 1
 have e1:Ar [z]=z:=by simp [Ar]
 have e2:Ar a / 2 ^ n / 4294967296 ^ k=Ar (a.drop (n / 32+k)) / 2 ^ (n % 32):=by
  rw [←LA h,ay,Adb n]
  simp only [js]
  congr 1
  rw [al,al,aq (2 ^ _)]
 rw [e1,e2,DD,DD,Adc (by omega),hz]
theorem AbD (h:An a) (hk:a.length≤n / 32+k) (hv:Ar os=Ar a / 2 ^ n % 4294967296 ^ k):Ar os=Ar a / 2 ^ n:=by
 rw [hv]
 refine dt ?_
 have hl:=Br h
 refine (ir (ba _)).2 (ai hl ?_)
 rw [Adb n,←al,←ay]
 refine lT (ao (by decide) (show a.length≤k+n / 32 by omega)) (Nat.le_mul_of_pos_right _ (ba _))
theorem Wg {x:Nat} (hx:x<4294967296):bits .and .u32 ((x:Int) / 2 ^ r) 1=((x / 2 ^ r % 2:Nat):Int):=by
 have e:(x:Int) / 2 ^ r=((x / 2 ^ r:Nat):Int):=by simp
 have hl:x / 2 ^ r≤x:=iu _ _
 rw [e]
 generalize x / 2 ^ r=y at hl
 have:=bits_mask .u32 32 (by decide) (fun n h0 h1=>by rw [iv];omega) 1 (by decide) (y:Int) (by omega) (by omega)
 rw [show ((2:Int) ^ 1 - 1)=1 by decide,show ((2:Int) ^ 1)=2 by decide] at this
 rw [this]
 omega
theorem Rz (y:Nat):(((y:Nat):Int) == 1)=(y == 1):=by
 by_cases h:y=1
 ·subst h;rfl
 ·have h2:(((y:Nat):Int) == 1)=false:=by rw [beq_eq_false_iff_ne];omega
  have h3:(y == 1)=false:=by rw [beq_eq_false_iff_ne];omega
  rw [h2,h3]
theorem AbE {x:Nat} (h:An a) (hx:x<4294967296) (hg:a[k / 32]?.getD 0=x):(bits .and .u32 ((x:Int) / 2 ^ (k % 32)) 1 == 1)=(Ar a / 2 ^ k % 2 == 1):=by
 rw [Wg hx,GK h,hg]
 exact Rz _
theorem Akt {x:Nat} (hx:x<4294967296) (hy:y<4294967296):bits .or .u64 (x:Int) ((y:Int)*4294967296)=((x+y*4294967296:Nat):Int):=by
 have:=Wb (c:=x) (x:=y) (s:=32) (by omega) hy (by omega)
 rw [←this]
 simp
def Agv (w:World) (a:List Nat) (n q:Nat) (v i:Value) (wr:World):Prop :=
 ∃ (k:Nat) (os:List Nat),q+k≤a.length∧i=.int .i64 ((q+k:Nat):Int)∧CQ wr w.heap.size v os∧os.length=k∧An os∧Ar os=Ar a / 2 ^ n % 4294967296 ^ k∧Below w.heap.size w wr
def Aku (a:List Nat) (n:Nat) (w:World) (cv i:Value) (wr:World):Prop :=
 ∃ k:Nat,k≤n∧k≤32*a.length∧i=.int .i64 (k:Int)∧cv=.bool (Nn (Ar a) k)∧w=wr
def nf (m:Int):Nat→Int × Nat
 | 0=>(m,0)
 | d+1=>if m % 2=0 then nf (m / 2) d else (m,d+1)
def sg (neg:Bool) (n:Nat):Int:=if neg=true then -(n:Int) else n
theorem RB (d:Nat):nf 0 d=(0,0):=by
 induction d with
 | zero=>rfl
 | succ d ih=>simp [nf,ih]
theorem Add (m:Int) (d:Nat):(nf m d).2≤d:=by
 induction d generalizing m with
 | zero=>exact aa _
 | succ d ih =>
  unfold nf
  split
  ·have:=ih (m / 2);omega
  ·exact aa _
theorem Wh (m:Int) (d:Nat):(nf m d).2≠0→(nf m d).1 % 2=1:=by
 induction d generalizing m with
 | zero=>simp [nf]
 | succ d ih =>
  unfold nf
  split
  ·exact ih _
  ·intro _
   simp
   omega
theorem EJ {m:Int} (h:d≠0→m % 2=1):nf m d=(m,d):=by
 cases d with
 | zero=>rfl
 | succ d =>
  have:=h (by omega)
  simp [nf,this]
theorem ZG (m:Int) (d:Nat):(nf m d).1*2 ^ d=m*2 ^ (nf m d).2:=by
 induction d generalizing m with
 | zero=>rfl
 | succ d ih =>
  unfold nf
  split
  ·rename_i h
   rw [Int.pow_succ,←ar,ih]
   have:m=m / 2*2:=by omega
   rw [ar,ej (2 ^ _) 2,←ar,←this]
  ·rfl
theorem Fi (m:Int) (d:Nat):(nf m d).1.natAbs≤m.natAbs:=by
 induction d generalizing m with
 | zero=>exact aa _
 | succ d ih =>
  unfold nf
  split
  ·have:=ih (m / 2);omega
  ·exact aa _
theorem Gf (neg:Bool) (n:Nat):(sg neg n).natAbs=n:=by
 unfold sg
 split <;> omega
theorem Wi (h:n≠0):decide (sg neg n<0)=neg:=by
 unfold sg
 cases neg <;> simp <;> omega
theorem RC (m:Int):sg (decide (m<0)) m.natAbs=m:=by
 unfold sg
 by_cases h:m<0
 ·simp [h];omega
 ·simp [h];omega
theorem Wj (hk:k<den) (h:n / 2 ^ k % 2=0):nf (sg neg (n / 2 ^ k)) (den - k)=nf (sg neg (n / 2 ^ (k+1))) (den - (k+1)):=by
 rw [az,←js,show den - k=(den - (k+1))+1 by omega]
 generalize n / 2 ^ k=y at *
 show (if sg neg y % 2=0 then nf (sg neg y / 2) (den - (k+1)) else _)=_
 have e1:sg neg y % 2=0:=by unfold sg;split <;> omega
 have e2:sg neg y / 2=sg neg (y / 2):=by unfold sg;split <;> omega
 rw [if_pos e1,e2]
theorem AC {a:Nat} (h:a≤b):(Aa a).length≤(Aa b).length:=by
 refine Az (fy h ?_)
 have:=Br (Au b)
 rwa [Ao] at this
theorem PN (y:Nat):(((y:Nat):Int) == 0)=(y == 0):=by
 by_cases h:y=0
 ·subst h;rfl
 ·have h2:(((y:Nat):Int) == 0)=false:=by rw [beq_eq_false_iff_ne];omega
  have h3:(y == 0)=false:=by rw [beq_eq_false_iff_ne];omega
  rw [h2,h3]
theorem Agw {x:Nat} (h:An a) (hx:x<4294967296) (hg:a[k / 32]?.getD 0=x):(bits .and .u32 ((x:Int) / 2 ^ (k % 32)) 1 == 0)=(Ar a / 2 ^ k % 2 == 0):=by
 rw [Wg hx,GK h,hg]
 exact PN _
theorem Agx (h:n % 2 ^ k=0) (hz:n / 2 ^ k % 2=0):n % 2 ^ (k+1)=0:=by
 rw [az,Nat.mod_mul,h,hz]
 simp
def DyR (w:World) (lo hi:Nat) (v:Value) (x:Int) (d:Nat):Prop :=
 ∃ A c,v=.agg #[.bool (decide (x<0)),.slice A (Aa x.natAbs).length c,.int .i64 (d:Int)]∧(A=none→c=0)∧(Aa x.natAbs).length≤c∧Aj w hi A (w32 (Aa x.natAbs)) ∧
  (∀ a,A=some a→lo≤a.block)∧d≤65536∧(d≠0→x % 2=1)
theorem DyR.zero_ (w:World) (lo hi:Nat):DyR w lo hi (.agg #[.bool false,.slice none 0 0,.int .i64 0]) 0 0:=by
 refine ⟨none,0,?_,fun _=>rfl,?_,?_,by simp,by omega,by simp⟩
 ·rw [show (0:Int).natAbs=0 by rfl,Ax];rfl
 ·rw [show (0:Int).natAbs=0 by rfl,Ax];exact aa _
 ·rw [show (0:Int).natAbs=0 by rfl,Ax];exact Aj.nil_
def Akv (w:World) (i:Value) (wr:World):Prop:=i=.int .i64 0∧w=wr
def Akw (n den:Nat) (neg:Bool) (w:World) (i:Value) (wr:World):Prop :=
 ∃ k:Nat,k≤den∧k≤32*(Aa n).length∧i=.int .i64 (k:Int)∧n % 2 ^ k=0∧nf (sg neg n) den=nf (sg neg (n / 2 ^ k)) (den - k)∧w=wr
theorem DyR.below (h:DyR w lo hi v x d) (hb:Below B w w') (hB:hi≤B):DyR w' lo hi v x d:=by
 obtain ⟨A,c,e,h1,h2,h3,h4,h5,h6⟩:=h
 exact ⟨A,c,e,h1,h2,h3.below hb hB,h4,h5,h6⟩
theorem DyR.more {hi':Nat} (h:DyR w lo hi v x d) (hB:hi≤hi'):DyR w lo hi' v x d:=by
 obtain ⟨A,c,e,h1,h2,h3,h4,h5,h6⟩:=h
 exact ⟨A,c,e,h1,h2,h3.more hB,h4,h5,h6⟩
theorem DyR.low {lo':Nat} (h:DyR w lo hi v x d) (hB:lo'≤lo):DyR w lo' hi v x d:=by
 obtain ⟨A,c,e,h1,h2,h3,h4,h5,h6⟩:=h
 exact ⟨A,c,e,h1,h2,h3,fun a ha=>lT hB (h4 a ha),h5,h6⟩
theorem Aj.setD {xs:List Value} (h:Aj w m A xs) {b j:Nat} (u:Value) (hA:∀ a:Addr,A=some a→a.block≠b):Aj (w.setCell ⟨b,j,none⟩ u) m A xs:=fun hx=>by
 obtain ⟨g,off,rfl,hbm,hbs,hc⟩:=h hx
 refine ⟨g,off,rfl,hbm,by simpa using hbs,fun i u hu=>?_⟩
 have hne:g≠b:=hA _ rfl
 rw [World.cell?_setCell_other _ _ _ _ (by first|(simp;omega)|simp_all)]
 exact hc i u hu
theorem DyR.set_ (h:DyR w lo hi v x d) (hb:b<lo) (j:Nat) (u:Value):DyR (w.setCell ⟨b,j,none⟩ u) lo hi v x d:=by
 obtain ⟨A,c,e,h1,h2,h3,h4,h5,h6⟩:=h
 exact ⟨A,c,e,h1,h2,h3.setD u (fun a ha h0=>by have:=h4 a ha;omega),h4,h5,h6⟩
theorem DyR.form (h:DyR w lo hi v x d):∃ nb A L c,v=.agg #[.bool nb,.slice A L c,.int .i64 (d:Int)] ∧
  Hid (nb=decide (x<0)∧L=(Aa x.natAbs).length∧(A=none→c=0)∧L≤c∧Aj w hi A (w32 (Aa x.natAbs))∧d≤65536∧(d≠0→x % 2=1)):=by
 obtain ⟨A,c,e,h1,h2,h3,h4,h5,h6⟩:=h
 exact ⟨_,A,_,c,e,ko ⟨rfl,rfl,h1,h2,h3,h5,h6⟩⟩
theorem Ade (h5:d≤65536) (h6:d≠0→x % 2=1):Agu (decide (x<0)) x.natAbs d:=by
 refine ⟨fun h=>?_,h5,fun h=>by have:=h6 h;omega⟩
 have hx:x=0:=by omega
 subst hx
 refine ⟨by simp,?_⟩
 rcases cw d with h|h
 ·exact h
 ·have:=h6 (by omega)
  omega
theorem Akx (h6:d≠0→x % 2=1):nf x d=(x,d):=EJ h6
def sgI (x:Int):Int:=if x=0 then 0 else if x<0 then -1 else 1
theorem BG.other_ (h:BG w b vs t) {k:Nat} (hk:b≠k) (j:Nat) (u:Value):BG (w.setCell ⟨k,j,none⟩ u) b vs t:=by
 unfold BG
 rw [heap_setCell_other _ _ _ _ hk]
 exact h
theorem BG.cells_ (h:BG w b vs t) (hm:b<m):Aj w m (some ⟨b,0,none⟩) vs:=fun _=>⟨b,0,rfl,hm,h.lt,fun j u hu=>by
 have:=h.cell j
 rw [bj,this]
 exact hu⟩
theorem Ou:Ar [lo,hi]=lo+4294967296*hi:=by simp [Ar]
theorem Adf (h1:lo<4294967296) (h2:hi<4294967296):An [lo,hi]:=by
 intro x hx
 simp at hx
 omega
def OwnD (w:World) (r:Nat):Prop:=∃ v0 v1 v2,BG w r [v0,v1,v2] 43
structure SK (W:World) (m r:Nat) (w:World):Prop where
 is:Below m W w
 fits:m≤w.heap.size
 own:OwnD w r
theorem SK.refl (h:m≤w.heap.size) (ho:OwnD w r):SK w m r w:=⟨ab _ _,h,ho⟩
theorem SK.drew (h:SK W m r w):SK W m r w.drew:=⟨h.is.drew,h.fits,h.own⟩
theorem BG.call (h:BG w b vs t) (hb:Below w.heap.size w w'):BG w' b vs t:=h.below hb h.lt
theorem SK.call (h:SK W m r w) (hb:Below w.heap.size w w'):SK W m r w' :=
 ⟨h.is.trans (hb.mono h.fits),lT h.fits hb.size,let ⟨_,_,_,hr⟩:=h.own;⟨_,_,_,hr.call hb⟩⟩
theorem SK.set (h:SK W m r w) (hm:m≤r) (j:Nat) (u:Value):SK W m r (w.setCell ⟨r,j,none⟩ u):=by
 refine ⟨h.is.setCell hm u,by simpa using h.fits,?_⟩
 obtain ⟨v0,v1,v2,hr⟩:=h.own
 have h2:=hr.set_ j u
 rcases j with _|_|_|j
 ·exact ⟨_,_,_,h2⟩
 ·exact ⟨_,_,_,h2⟩
 ·exact ⟨_,_,_,h2⟩
 ·exact ⟨_,_,_,h2⟩
theorem SK.lt (h:SK W m r w):r<w.heap.size:=let ⟨_,_,_,hr⟩:=h.own;hr.lt
theorem SK.all (h:SK W m r w):(∀ b o,b<m→w.cell? ⟨b,o,none⟩=W.cell? ⟨b,o,none⟩)∧SK W m r w :=
 ⟨fun _ _ hb=>h.is.cell (p:=⟨_,_,none⟩) hb,h⟩
theorem SK.cells (h:SK W m r w):∃ v0 v1 v2,BG w r [v0,v1,v2] 43∧w.cell? ⟨r,0,none⟩=some v0∧w.cell? ⟨r,1,none⟩=some v1∧w.cell? ⟨r,2,none⟩=some v2∧(∀ o,w.frozen? ⟨r,o,none⟩=false):=by
 obtain ⟨v0,v1,v2,hr⟩:=h.own
 exact ⟨v0,v1,v2,hr,hr.cell 0,hr.cell 1,hr.cell 2,hr.free⟩
theorem DE (a b:Nat):(Aa (a+b)).length≤max (Aa a).length (Aa b).length+1:=by
 refine Az ?_
 have h1:=Br (Au a)
 have h2:=Br (Au b)
 rw [Ao] at h1 h2
 have e1:4294967296 ^ (Aa a).length≤4294967296 ^ max (Aa a).length (Aa b).length:=ao (by decide) (by omega)
 have e2:4294967296 ^ (Aa b).length≤4294967296 ^ max (Aa a).length (Aa b).length:=ao (by decide) (by omega)
 rw [az]
 have h0:0<4294967296 ^ max (Aa a).length (Aa b).length:=Nat.pow_pos (by decide)
 omega
theorem Bc (a n:Nat):(Aa (a*2 ^ n)).length≤(Aa a).length+n / 32+1:=by
 refine Az ?_
 have h1:=Br (Au a)
 rw [Ao] at h1
 have e:2 ^ n≤4294967296 ^ (n / 32+1):=by
  rw [show (4294967296:Nat)=2 ^ 32 by decide,←dn]
  exact ao (by decide) (by omega)
 rw [fv,ay]
 exact ai (iy h1 (ba _)) (fw _ e)
def WdR (w:World) (hi:Nat) (v:Value) (n:Nat):Prop:=∃ A c,v=.slice A (Aa n).length c∧(A=none→c=0)∧(Aa n).length≤c∧Aj w hi A (w32 (Aa n))
theorem WdR.below (h:WdR w hi v n) (hb:Below B w w') (hB:hi≤B):WdR w' hi v n:=by
 obtain ⟨A,c,e,h1,h2,h3⟩:=h
 exact ⟨A,c,e,h1,h2,h3.below hb hB⟩
theorem WdR.more {hi':Nat} (h:WdR w hi v n) (hB:hi≤hi'):WdR w hi' v n:=by
 obtain ⟨A,c,e,h1,h2,h3⟩:=h
 exact ⟨A,c,e,h1,h2,h3.more hB⟩
theorem WdR.form (h:WdR w hi v n):∃ A L c,v=.slice A L c:=by
 obtain ⟨A,c,e,_⟩:=h
 exact ⟨A,_,c,e⟩
theorem DyR.words (h:DyR w lo hi (.agg #[.bool nb,.slice A L c,.int .i64 (d:Int)]) x d):WdR w hi (.slice A L c) x.natAbs:=by
 obtain ⟨A',c',e,h1,h2,h3,_⟩:=h
 cases e
 exact ⟨_,_,rfl,h1,h2,h3⟩
theorem RD (a b:Nat):VZ (Aa a) (Aa b)=decide (a<b):=by
 unfold VZ
 by_cases h:(Aa a).length=(Aa b).length
 ·rw [if_pos h,Ao,Ao]
 ·rw [if_neg h]
  by_cases h2:a<b
  ·have:=AC (Nat.le_of_lt h2)
   rw [decide_eq_true h2,decide_eq_true (by omega)]
  ·have:=AC (Nat.le_of_not_lt h2)
   rw [decide_eq_false h2,decide_eq_false (by omega)]
def Ci (x:Int) (dx:Nat) (y:Int) (dy:Nat):Int × Nat:=nf (x*2 ^ (max dx dy - dx)+y*2 ^ (max dx dy - dy)) (max dx dy)
theorem Te (x:Int) (k:Nat):sg (decide (x<0)) (x.natAbs*2 ^ k)=x*2 ^ k:=by
 have e:((x.natAbs*2 ^ k:Nat):Int)=(x.natAbs:Int)*2 ^ k:=by simp
 unfold sg
 by_cases h:x<0
 ·have:(x.natAbs:Int) = -x:=by omega
  rw [if_pos (by simpa using h),e,this,dc,Int.neg_neg]
 ·have:(x.natAbs:Int)=x:=by omega
  rw [if_neg (by simpa using h),e,this]
theorem Adg (nb:Bool) (a b:Nat):sg nb (a+b)=sg nb a+sg nb b:=by
 unfold sg
 split <;> omega
theorem Adh {nb2:Bool} {a:Nat} (hn:nb≠nb2) (h:a<b):sg nb2 (b - a)=sg nb a+sg nb2 b:=by
 unfold sg
 cases nb <;> cases nb2 <;> simp at hn ⊢ <;> omega
theorem Adi {nb2:Bool} {a:Nat} (hn:nb≠nb2) (h:b≤a):sg nb (a - b)=sg nb a+sg nb2 b:=by
 unfold sg
 cases nb <;> cases nb2 <;> simp at hn ⊢ <;> omega
theorem LD (x:Int) (k:Nat):(x*2 ^ k).natAbs=x.natAbs*2 ^ k:=by
 rw [fz,fh]
 rfl
theorem Wl {y:Int} {dx dy:Nat} (l1:(Aa x.natAbs).length≤50000) (l2:(Aa y.natAbs).length≤50000) (h1:dx≤65536) (h2:dy≤65536):(Aa (Ci x dx y dy).1.natAbs).length≤100000:=by
 unfold Ci
 refine lT (AC (Fi _ _)) ?_
 refine lT (AC (Int.natAbs_add_le _ _)) ?_
 rw [LD,LD]
 have e1:=Bc x.natAbs (max dx dy - dx)
 have e2:=Bc y.natAbs (max dx dy - dy)
 have e3:=DE (x.natAbs*2 ^ (max dx dy - dx)) (y.natAbs*2 ^ (max dx dy - dy))
 omega
theorem FN {dx:Nat} (h:dx≠0→x % 2=1):Ci x dx 0 0=(x,dx):=by
 unfold Ci
 rw [show max dx 0=dx by omega]
 simp
 exact EJ h
def Bx (x:Int) (dx:Nat) (y:Int) (dy:Nat):Int:=sgI (Ci x dx (-y) dy).1
def Fa (x:Int) (dx:Nat) (y:Int) (dy:Nat):Int × Nat:=if 0<Bx x dx y dy then (y,dy) else (x,dx)
def EK (x:Int) (dx:Nat) (y:Int) (dy:Nat):Int × Nat:=if Bx x dx y dy<0 then (y,dy) else (x,dx)
theorem DyR.bound (h:DyR w lo hi v x d):d≤65536∧(d≠0→x % 2=1):=by
 obtain ⟨A,c,e,h1,h2,h3,h4,h5,h6⟩:=h
 exact ⟨h5,h6⟩
def Ad (x:Int) (d:Nat) (n:Int):Int × Nat :=
 if max (-65536) (min n 65536)<0 then nf x (d+(-(max (-65536) (min n 65536))).toNat) else nf (x*2 ^ (max (-65536) (min n 65536)).toNat) d
def Bz (x:Int) (d den:Nat):Int × Nat:=if d≤den then (x,d) else nf (x / 2 ^ (d - den)) den
theorem Agy (h:0≤x):sg false (x.natAbs / 2 ^ k)=x / 2 ^ k:=by
 obtain ⟨a,rfl⟩:=Int.eq_ofNat_of_zero_le h
 show ((a / 2 ^ k:Nat):Int)=(a:Int) / 2 ^ k
 simp
theorem Uz (h:x<0) (hc:Nn x.natAbs k=true):sg true (x.natAbs / 2 ^ k+1)=x / 2 ^ k:=by
 obtain ⟨a,ha⟩:∃ a:Nat,x = -(a:Int):=⟨x.natAbs,by omega⟩
 subst ha
 rw [show (-(a:Int)).natAbs=a by omega] at hc ⊢
 unfold Nn at hc
 simp only [decide_eq_true_eq] at hc
 have hp:=ba k
 have e:=dh a (2 ^ k)
 have hm:=ek a hp
 show -((a / 2 ^ k+1:Nat):Int) = -(a:Int) / 2 ^ k
 have ec:((2 ^ k:Nat):Int)=2 ^ k:=by simp
 rw [←ec]
 generalize 2 ^ k=P at *
 have h1 : -(a:Int)=(P:Int)*(-((a / P+1:Nat):Int))+((P - a % P:Nat):Int):=by
  have e3:((P - a % P:Nat):Int)=(P:Int) - ((a % P:Nat):Int):=by omega
  have e4:(a:Int)=(P:Int)*((a / P:Nat):Int)+((a % P:Nat):Int):=by exact_mod_cast e.symm
  rw [e3]
  generalize a / P=u at *
  generalize a % P=v at *
  rw [e4,Int.mul_neg,show ((u+1:Nat):Int)=(u:Int)+1 by omega,Int.mul_add]
  omega
 rw [h1,Int.mul_add_ediv_left _ _ (by omega)]
 rw [Int.ediv_eq_zero_of_lt (by omega) (by omega)]
 omega
theorem Agz {mm x:Nat} (hm:mm<4294967296) (hx:x<4294967296):bits .or .u64 ((mm:Int)*4294967296) (x:Int)=((x+4294967296*mm:Nat):Int):=by
 have h:=Wb (c:=x) (x:=mm) (s:=32) (by omega) hm (by omega)
 rw [show x+4294967296*mm=x+mm*2 ^ 32 by omega,←h]
 have e:((mm:Int)*4294967296)=((mm*2 ^ 32:Nat):Int):=by simp
 rw [e,bits_or_u64_nat _ _ (by omega) (by omega),bits_or_u64_nat _ _ (by omega) (by omega),Nat.or_comm]
theorem Eq (A:Option Addr) (ws:List Nat) (c m:Nat) (w:World) (h:Aj w m A (w32 ws)) (hc:ws.length≤c) (hl:ws.length≤1000000) :
  Calls prog 161 #[.slice A ws.length c] w fun e w'=>e=.returned (.slice A (Gn ws).length c)∧w=w':=by
 have H:=ko h
 clear h
 go_enter func161,ntmps161
 go_wp2_with fail
 go_loopw [3] (fun i wr=>Agq w ws i wr) (fun i _=>(intOf i).toNat)
 case atStart=>exact ⟨ws.length,aa _,rfl,rfl,rfl⟩
 case round =>
  obtain ⟨k,hk,rfl,ht,rfl⟩:=hrel
  have HT:=ko ht
  clear ht
  by_cases h0:k=0
  ·subst h0
   go_wp2_with fail
   go_ret
   refine ⟨?_,rfl⟩
   rw [BN,←HT.out]
   rfl
  ·obtain ⟨j,rfl⟩:=iz h0
   obtain ⟨b,off,z,rfl,hbm,hbs,hx,hcc⟩:=H.out.w32_ (k:=j) (by omega)
   have HX:=ko hx
   clear hx
   by_cases hz:z=0
   ·subst hz
    go_wp2_with fail
    have e1:CL ws j=CL ws ws.length:=by
     rw [←HT.out]
     show CL ws j=if ws[j]?.getD 0=0 then CL ws j else j+1
     rw [if_pos (by rw [HX.out];rfl)]
    exact ⟨⟨j,by omega,by go_num,e1,rfl⟩,by simp [intOf];try omega⟩
   ·have hz':((z:Int) == 0)=false:=by simp;omega
    go_wp2_with fail
    go_ret
    refine ⟨?_,rfl⟩
    have e1:j+1=CL ws ws.length:=by
     rw [←HT.out]
     show j+1=if ws[j]?.getD 0=0 then CL ws j else j+1
     rw [if_neg (by rw [HX.out];exact hz)]
    rw [BN,←e1]
    rfl
theorem Aky (h:p:=by
 go_enter func123,ntmps123
 go_wp2_with fail
 go_ret
 exact ⟨rfl,(ab _ w).alloc (aa _) _⟩):p:=h
theorem UA (neg:Bool) (A:Option Addr) (n den c m:Nat) (w:World) (hm:m≤w.heap.size) (h:Aj w m A (w32 (Aa n))) (hl:(Aa n).length≤100000) (ok:Agu neg n den) :
  Calls prog 123 #[.agg #[.bool neg,.slice A (Aa n).length c,.int .i64 (den:Int)]] w fun e w'=>e=.returned (.bool true)∧Below w.heap.size w w':=by
 by_cases h0:n=0
 ·obtain ⟨rfl,rfl⟩:=ok.zero h0
  subst h0
  rw [Ax]
  clear h hl ok
  exact Aky
 ·have hp:=Ce h0
  have ht:=Lx h0
  obtain ⟨b,off,z,rfl,q1,q2,hz,g1⟩:=h.w32_ (k:=(Aa n).length - 1) (by omega)
  have hz0:((z:Int) != 0)=true:=by
   rw [hz] at ht
   simp at ht
   simp
   omega
  have g0:w.cell? ⟨b,off,none⟩=some (.int .u32 ((n % 4294967296:Nat):Int)):=by
   obtain ⟨b',off',z',hA,_,_,hz',g'⟩:=h.w32_ (k:=0) hp
   cases hA
   rw [Nm h0] at hz'
   cases hz'
   exact g'
  obtain ⟨L,hL⟩:∃ L,L=(Aa n).length - 1:=⟨_,rfl⟩
  obtain ⟨x,hx⟩:∃ x:Nat,x=n % 4294967296:=⟨_,rfl⟩
  have hlen:(Aa n).length=L+1:=by omega
  have hd:=ok.fine
  have ho:=ok.odd
  rw [←hx] at g0
  rw [←hL] at g1
  rw [hlen]
  have hl':L≤100000:=by omega
  have e0:((L:Int)+1 == 0)=false:=by simp;omega
  have hodd:den≠0→(x:Int) % 2=1:=fun hne=>by have:=ho hne;omega
  clear h hl ok ho ht hz hL hx hlen hp h0
  by_cases hden:den=0
  ·subst hden
   clear hodd hd
   exact Aky
  ·have ho:=hodd hden
   have d0:((den:Int) == 0)=false:=by simp;omega
   have d1:decide ((den:Int)≤65536)=true:=decide_eq_true (by omega)
   clear hodd hden
   exact Aky
theorem EL (D:DyR w lo m v x d) (hm:m≤w.heap.size) (hl:(Aa x.natAbs).length≤100000) :
  Calls prog 69 #[v] w fun e w'=>∃ nb A L c,v=.agg #[.bool nb,.slice A L c,.int .i64 (d:Int)]∧e=.returned (.tuple #[.bool nb,.slice A L c,.int .i64 (d:Int)])∧Below w.heap.size w w':=by
 have hok:=Ade D.bound.1 D.bound.2
 have D0:=ko D
 obtain ⟨A,c,rfl,h1,h2,h3,h4,h5,h6⟩:=D
 have H3:=ko h3
 have HOK:=ko hok
 have HL:=ko hl
 clear h3 hok hl h6 h4
 obtain ⟨nb,hnb⟩:∃ nb,nb=decide (x<0):=⟨_,rfl⟩
 rw [←hnb] at HOK D0 ⊢
 clear hnb
 have b0:Below w.heap.size w (w.alloc (.cells #[.bool nb,.slice A (Aa x.natAbs).length c,.int .i64 (d:Int)] 43)):=Aq (ab _ _) _
 have r0:=BG.new_ w [.bool nb,.slice A (Aa x.natAbs).length c,.int .i64 (d:Int)] 43
 go_enter func69,ntmps69
 go_wp2_with fail
 go_at_call 123
 refine (UA nb A x.natAbs d c m _ (by simp;omega) (H3.out.below b0 hm) HL.out HOK.out).mono ?_
 rintro e w1 ⟨rfl,hb⟩
 have s0:=r0.below hb (by simp)
 have b1:=b0.trans (hb.mono (by simp))
 have k0:w1.cell? ⟨w.heap.size,0,none⟩=some (.bool nb):=s0.cell 0
 have k1:w1.cell? ⟨w.heap.size,1,none⟩=some (.slice A (Aa x.natAbs).length c):=s0.cell 1
 have k2:w1.cell? ⟨w.heap.size,2,none⟩=some (.int .i64 (d:Int)):=s0.cell 2
 clear hb r0 b0 s0
 go_wp2_with fail
 go_quiet (fail)
 go_wp2_with fail
 refine bodyPost_ret (v:=.tuple #[.bool nb,.slice A (Aa x.natAbs).length c,.int .i64 (d:Int)]) (by simp [results,results69,go_sem]) rfl ⟨nb,A,_,c,rfl,rfl,below_drewN b1 _⟩
theorem Akz (h:p:=by
 go_enter func55,ntmps55
 go_wp2_with fail
 go_at_call 69
 refine (EL (D0.out.below b0 hm) (by simp;omega) hl).mono ?_
 rintro e w1 ⟨nb',A',L',c',he,rfl,hb⟩
 cases he
 go_wp2_with fail
 go_ret
 exact ⟨by rw [HV.out];rfl,b0.trans (hb.mono (by simp))⟩):p:=h
theorem Wm (D:DyR w lo m v x d) (hm:m≤w.heap.size) (hl:(Aa x.natAbs).length≤100000) :
  Calls prog 55 #[v] w fun e w'=>e=.returned (.int .i64 (sgI x))∧Below w.heap.size w w':=by
 obtain ⟨nb,A,L,c,rfl,HD⟩:=D.form
 have D0:=ko D
 have b0:Below w.heap.size w (w.alloc (.cells #[.bool nb,.slice A L c,.int .i64 (d:Int)] 43)):=Aq (ab _ _) _
 clear D
 by_cases hx:x=0
 ·have hL:(L:Int)=0:=by have:=HD.out.2.1;rw [hx] at this;simp [Ax] at this;omega
  have hLb:((L:Int) == 0)=true:=by rw [hL];rfl
  have HV:=ko (show sgI x=0 by unfold sgI;rw [if_pos hx])
  have HL:=ko hL
  clear hL hx
  exact Akz
 ·have hL:(L:Int)≠0:=by have:=HD.out.2.1;have h2:=Ce (n:=x.natAbs) (by omega);omega
  have hLb:((L:Int) == 0)=false:=by rw [beq_eq_false_iff_ne];exact hL
  have hnb:=HD.out.1
  cases nb with
  | true =>
   have hx2:x<0:=by simpa using hnb.symm
   have HV:=ko (show sgI x = -1 by unfold sgI;rw [if_neg hx,if_pos hx2])
   clear hL hx hnb hx2
   exact Akz
  | false =>
   have hx2:¬ x<0:=by simpa using hnb.symm
   have HV:=ko (show sgI x=1 by unfold sgI;rw [if_neg hx,if_neg hx2])
   clear hL hx hnb hx2
   exact Akz
def UB:List Int:=[0,1,28,2,29,14,24,3,30,22,20,15,25,17,4,8,31,27,13,23,21,19,16,7,26,12,18,6,11,5,10,9]
def Al (w:World):Prop:=0<w.heap.size∧∀ j z,UB[j]?=some z→w.cell? ⟨0,j,none⟩=some (.int .u8 z)
theorem Al.below (h:Al w) (hb:Below B w w') (hB:0<B):Al w' :=
 ⟨ai h.1 hb.size,fun j z hz=>(hb.cell (p:=⟨0,j,none⟩) hB).trans (h.2 j z hz)⟩
theorem Al.call (h:Al w) (hb:Below w.heap.size w w'):Al w':=h.below hb h.1
theorem AgA:∀ k:Nat,k<32→UB[(2 ^ k*125613361 % 4294967296) / 134217728]?=some (k:Int):=by decide
theorem Wn:∀ (n:Nat) {x:Nat},0<x→x<2 ^ n→∃ k,k<n∧x % 2 ^ k=0∧x / 2 ^ k % 2=1
 | 0,x,h,h2=>by simp at h2;omega
 | n+1,x,h,h2=>by
  by_cases hx:x % 2=1
  ·exact ⟨0,by omega,Nat.mod_one _,by simpa using hx⟩
  ·obtain ⟨k,hk,h3,h4⟩:=Wn n (x:=x / 2) (by omega) (by rw [az] at h2;omega)
   refine ⟨k+1,by omega,?_,?_⟩
   ·rw [gn,Nat.mod_mul]
    omega
   ·rw [gn,←js]
    exact h4
theorem Adj {x:Nat} (hk:k<n) (hx:x<2 ^ n) (h1:x % 2 ^ k=0) (h2:x / 2 ^ k % 2=1):x &&& (2 ^ n - x)=2 ^ k:=by
 have hp:=ba k
 have e0:=dh x (2 ^ k)
 have hx0:0<x:=by
  rcases cw x with h|h
  ·rw [h] at h2;simp at h2
  ·exact h
 have e:2 ^ n - x=2 ^ n - ((x - 1)+1):=by omega
 rw [e]
 apply Nat.eq_of_testBit_eq
 intro i
 rw [Nat.testBit_and,Nat.testBit_two_pow_sub_succ (by omega),Nat.testBit_two_pow]
 have hdiv:∀ y,y.testBit i=decide (y / 2 ^ i % 2=1):=fun y=>by rw [Nat.testBit_eq_decide_div_mod_eq]
 rw [hdiv,hdiv]
 rcases Nat.lt_trichotomy i k with hik|hik|hik
 ·have hz:x / 2 ^ i % 2=0:=by
   have es:2 ^ k=2 ^ i*(2*2 ^ (k - i - 1)):=by rw [←gn,←ay];congr 1;omega
   have:x=2 ^ i*(2*(2 ^ (k - i - 1)*(x / 2 ^ k))):=by
    rw [h1,bz] at e0
    rw [←al 2,←al,←es]
    exact e0.symm
   rw [this,kh _ (ba i)]
   omega
  rw [decide_eq_false (show ¬ x / 2 ^ i % 2=1 by omega),decide_eq_false (show ¬ k=i by omega)]
  rfl
 ·subst hik
  have hq:(x - 1) / 2 ^ i % 2=0:=by
   obtain ⟨q,hq1⟩:∃ q,x / 2 ^ i=q+1:=iz (fun h=>by rw [h] at h2;simp at h2)
   rw [h1,bz,hq1,cz,cj] at e0
   have hxq:x - 1=(2 ^ i - 1)+2 ^ i*q:=by
    generalize 2 ^ i*q=r at *
    omega
   rw [hxq,gm _ _ hp,fg (show 2 ^ i - 1<2 ^ i by omega),bj]
   omega
  rw [decide_eq_true h2,decide_eq_false (show ¬ (x - 1) / 2 ^ i % 2=1 by omega),decide_eq_true hk]
  simp
 ·have hq:(x - 1) / 2 ^ i=x / 2 ^ i:=by
   have hm:0<x % 2 ^ i:=by
    rcases cw (x % 2 ^ i) with h|h
    ·exfalso
     have es:2 ^ i=2 ^ k*(2*2 ^ (i - k - 1)):=by rw [←gn,←ay];congr 1;omega
     have e1:=dh x (2 ^ i)
     rw [h,bz,es] at e1
     rw [←e1,al,kh _ hp,al] at h2
     omega
    ·exact h
   have e1:=dh x (2 ^ i)
   have hlt:=ek x (ba i)
   have hxq:x - 1=(x % 2 ^ i - 1)+2 ^ i*(x / 2 ^ i):=by omega
   rw [hxq,gm _ _ (ba i),fg (by omega),bj]
  rw [hq,decide_eq_false (show ¬ k=i by omega)]
  by_cases hb:x / 2 ^ i % 2=1
  ·rw [decide_eq_true hb];simp
  ·rw [decide_eq_false hb];rfl
theorem IJ (a b:Nat) (ha:a<4294967296) (hb:b<4294967296):bits .and .u32 (a:Int) (b:Int)=((a &&& b:Nat):Int) :=
 (bits_nat .u32 32 (by decide) (fun n h0 h1=>by rw [iv];omega) a b (by omega) (by omega)).1
theorem AgB (x k:Nat) (w:World) (hx:x<4294967296) (hk:k<32) (h1:x % 2 ^ k=0) (h2:x / 2 ^ k % 2=1) (ht:Al w) :
  Calls prog 231 #[.int .u32 (x:Int)] w fun e w'=>e=.returned (.int .i64 (k:Int))∧w=w':=by
 have hx0:x≠0:=fun h=>by rw [h] at h2;simp at h2
 have hxb:((x:Int) == 0)=false:=by rw [beq_eq_false_iff_ne];omega
 have ha:=Adj (n:=32) hk (by omega) h1 h2
 obtain ⟨p,hp⟩:∃ p,p=2 ^ k:=⟨_,rfl⟩
 have hneg : -(x:Int) % 4294967296=((4294967296 - x:Nat):Int):=by omega
 have hand:bits .and .u32 (x:Int) (-(x:Int) % 4294967296)=(p:Int):=by
  rw [hneg,IJ x _ hx (by omega),hp]
  exact congrArg _ ha
 obtain ⟨j,hj⟩:∃ j,j=(2 ^ k*125613361 % 4294967296) / 134217728:=⟨_,rfl⟩
 have hjj:(p:Int)*125613361 % 4294967296 / 134217728=(j:Int):=by rw [hj,←hp];omega
 have hj0:j<32:=by rw [hj];omega
 have hj32:(j:Int)<32:=by omega
 have hc:=ht.2 j k (by rw [hj];exact AgA k hk)
 have h0:=ht.1
 have hk32:(k:Int)<256:=by omega
 clear h1 h2 ht ha hp hneg hj hk
 go_enter func231,ntmps231
 go_wp2_with fail
 go_ret
 exact ⟨rfl,rfl⟩
def AgC (n z:Nat):Prop:=n % 2 ^ z=0∧n / 2 ^ z % 2=1
theorem AbF (k:Nat):2 ^ (32*k)=4294967296 ^ k:=by rw [dn]
theorem AgD {x:Nat} (h:An a) (h0:Ar (a.take k)=0) (hx:a[k]?.getD 0=x) (ht:t<32) (h1:x % 2 ^ t=0) (h2:x / 2 ^ t % 2=1):AgC (Ar a) (32*k+t):=by
 refine ⟨?_,?_⟩
 ·rw [ay,Nat.mod_mul,AbF,LA h]
  have e1:Ar a % 4294967296 ^ k=0:=by
   have e:=Bu (a.take k) (a.drop k)
   rw [eg,h0,bj] at e
   by_cases hk:k≤a.length
   ·rw [eh,ff hk] at e
    rw [e]
    exact Nat.mul_mod_right _ _
   ·rw [fx (by omega)] at e
    rw [e]
    simp [Ar]
  rw [e1,DD,hx]
  have es:(4294967296:Nat)=2 ^ t*2 ^ (32 - t):=by rw [←ay,show t+(32 - t)=32 by omega]
  rw [es,al,Nat.add_mul_mod_self_left,h1]
  simp
 ·rw [GK h,show (32*k+t) / 32=k by omega,show (32*k+t) % 32=t by omega,hx]
  exact h2
theorem Adk (h:AgC n z):n≠0:=fun h0=>by
 have:=h.2
 rw [h0] at this
 simp at this
def AkA (a:List Nat) (w:World) (i:Value) (wr:World):Prop:=∃ k:Nat,k≤a.length∧i=.int .i64 (k:Int)∧Ar (a.take k)=0∧w=wr
theorem Wo (A:Option Addr) (n c m:Nat) (w:World) (hm:m≤w.heap.size) (h:Aj w m A (w32 (Aa n))) (hl:(Aa n).length≤100000) (ht:Al w) :
  Calls prog 162 #[.slice A (Aa n).length c] w fun e w'=>(∃ z:Nat,e=.returned (.int .i64 (z:Int))∧(n=0→z=1099511627776)∧(n≠0→AgC n z∧z≤3200000))∧w=w':=by
 have H:=ko h
 have HT:=ko ht
 clear h ht
 go_enter func162,ntmps162
 go_wp2_with fail
 go_loopw [7] (fun i wr=>AkA (Aa n) w i wr) (fun i _=>(Aa n).length - (intOf i).toNat)
 case atStart=>exact ⟨0,ad _,rfl,rfl,rfl⟩
 case round =>
  obtain ⟨k,hk,rfl,h0,rfl⟩:=hrel
  have H0:=ko h0
  clear h0
  by_cases hlt:k<(Aa n).length
  ·obtain ⟨b1,o1,x,rfl,q1,q2,hx,g1⟩:=H.out.w32_ hlt
   have bx:=Au n x (gM hx)
   have HX:=ko (show (Aa n)[k]?.getD 0=x by rw [hx];rfl)
   have ka':(k:Int)<((Aa n).length:Int):=by omega
   have HXX:=ko hx
   clear hx
   by_cases hz:x=0
   ·subst hz
    go_wp2_with fail
    refine ⟨⟨k+1,by omega,by go_num,?_,rfl⟩,by simp [intOf];try omega⟩
    rw [AJ,H0.out,HX.out]
    simp
   ·obtain ⟨t,ht,h1,h2⟩:=Wn 32 (x:=x) (by omega) (by omega)
    have hz':((x:Int) != 0)=true:=by simp;omega
    have H1:=ko h1
    have H2:=ko h2
    clear h1 h2
    go_wp2_with (go_at_call 231;refine (AgB x t w bx ht H1.out H2.out HT.out).mono ?_;rintro e w1 ⟨rfl,rfl⟩)
    go_ret
    have hhit:=AgD (Au n) H0.out HX.out ht H1.out H2.out
    rw [Ao] at hhit
    refine ⟨⟨32*k+t,?_,fun hn=>absurd hn (Adk hhit),fun _=>⟨hhit,by omega⟩⟩,rfl⟩
    have:((32*k+t:Nat):Int)=32*(k:Int)+(t:Int):=by omega
    rw [this]
    rfl
  ·have hle:¬ (k:Int)<((Aa n).length:Int):=by omega
   go_wp2_with fail
   go_ret
   refine ⟨⟨1099511627776,rfl,fun _=>rfl,fun hn=>?_⟩,rfl⟩
   exfalso
   have:=H0.out
   rw [ap (by omega),Ao] at this
   exact hn this
theorem Tf (A:Option Addr) (a:List Nat) (c i m:Nat) (w:World) (h:Aj w m A (w32 a)) (hi:i≤1000000) (hl:a.length≤1000000) :
  Calls prog 163 #[.slice A a.length c,.int .i64 (i:Int)] w fun e w'=>e=.returned (.int .u32 ((a[i]?.getD 0:Nat):Int))∧w=w':=by
 by_cases hlt:i<a.length
 ·obtain ⟨b1,o1,x,rfl,q1,q2,hx,g1⟩:=h.w32_ hlt
  have hil:(i:Int)<(a.length:Int):=by omega
  have HX:=ko (show a[i]?.getD 0=x by rw [hx];rfl)
  clear hx h
  go_enter func163,ntmps163
  go_wp2_with fail
  go_ret
  exact ⟨by rw [HX.out];rfl,rfl⟩
 ·have hil:¬ (i:Int)<(a.length:Int):=by omega
  have HX:=ko (show a[i]?.getD 0=0 by rw [dg (by omega)];rfl)
  clear h
  go_enter func163,ntmps163
  go_wp2_with fail
  go_ret
  exact ⟨by first|rfl|(rw [HX.out];rfl),rfl⟩
theorem Fj:prog.underlying 112=some (.slice 126):=by kernel_rfl
theorem CQ.put (h:CQ w base (.slice (some ⟨g,0,none⟩) n c) xs) (hn:n=xs.length) (j z:Nat):CQ (w.setCell ⟨g,j,none⟩ (.int .u32 (z:Int))) base (.slice (some ⟨g,0,none⟩) n c) (xs.set j z):=by
 subst hn
 have e:w32 (xs.set j z)=(w32 xs).set j (.int .u32 (z:Int)):=by simp [w32,gp]
 have h2:w.ownsRow base 126 1 (.slice (some ⟨g,0,none⟩) xs.length c) xs.length (w32 xs):=h
 have h3:=(World.ownsRow.stored h2 j (.int .u32 (z:Int))).1
 unfold CQ
 rw [e,di]
 exact h3
theorem CQ.cellA {j:Nat} (h:CQ w base (.slice (some ⟨g,0,none⟩) n c) xs) (hz:xs[j]?=some z):w.cell? ⟨g,j,none⟩=some (.int .u32 (z:Int)):=by
 obtain ⟨A',c',he,_,hc⟩:=h.view
 cases he
 have hj:j<xs.length:=(gS.1 hz).1
 obtain ⟨b,off,z',hA,_,_,hx,hcc⟩:=hc.w32_ hj
 cases hA
 rw [hz] at hx
 cases hx
 simpa using hcc
theorem CQ.freeA (h:CQ w base (.slice (some ⟨g,0,none⟩) n c) xs) (hn:n=xs.length) (j:Nat):w.frozen? ⟨g,j,none⟩=false:=by
 subst hn
 have h2:w.ownsRow base 126 1 (.slice (some ⟨g,0,none⟩) xs.length c) xs.length (w32 xs):=h
 exact World.ownsRow.frozenAt h2 j
theorem Wp {w2:World} (h:w2.ownsRow base 126 1 (.slice (some ⟨g,0,none⟩) L L) L (madeCells (Value.int .u32 0).cells (L*1)).toList):CQ w2 base (.slice (some ⟨g,0,none⟩) L L) (List.replicate L 0):=by
 have e1:w32 (List.replicate L 0)=(madeCells (Value.int .u32 0).cells (L*1)).toList:=by
  rw [cj]
  have:=toList_madeCells_one (Value.int .u32 0) L
  simp only [w32,List.map_replicate]
  exact this.symm
 unfold CQ
 rw [e1,fi]
 exact h
theorem Wq (hl:os.length=k) (hk:k<L):(os++List.replicate (L - k) 0).set k z=(os++[z])++List.replicate (L - (k+1)) 0:=by
 rw [List.set_append_right _ _ (by omega),hl,du,show L - k=(L - (k+1))+1 by omega,jr,ce]
 simp
def AkB (w:World) (a:List Nat) (n q g L:Nat) (i:Value) (wr:World):Prop :=
 ∃ (k:Nat) (os:List Nat),k≤L∧i=.int .i64 (k:Int)∧CQ wr w.heap.size (.slice (some ⟨g,0,none⟩) L L) (os++List.replicate (L - k) 0)∧os.length=k∧An os∧Ar os=Ar a / 2 ^ n % 4294967296 ^ k∧Below w.heap.size w wr
theorem ze4f (h:p:=by
 rw [hol] at hcall
 have HCALL:=ko hcall
 clear hkL hol hO hcall
 go_wp2_with (go_at_call 161;refine HCALL.out.mono ?_;rintro e w3 ⟨rfl,rfl⟩)
 go_ret
 have hcan:=Cd HOK.out
 rw [HWV.out] at hcan
 refine ⟨some ⟨g,0,none⟩,L,by rw [hcan];rfl,by simp,?_,?_,hb⟩
 ·rw [←hcan,BN]
  have:=Df os os.length
  have:=HOL.out
  omega
 ·rw [←hcan]
  exact HGC.out.takeW _):p:=h
theorem UC (A:Option Addr) (a:List Nat) (c n m:Nat) (w:World) (hm:m≤w.heap.size) (h1:Aj w m A (w32 a)) (ha:An a) (l1:a.length≤100000) (hn:n≤1000000) :
  Calls prog 72 #[.slice A a.length c,.int .i64 (n:Int)] w fun e w' =>
   ∃ G g,e=.returned (.slice G (Aa (Ar a / 2 ^ n)).length g)∧(G=none→g=0)∧(Aa (Ar a / 2 ^ n)).length≤g∧Aj w' w'.heap.size G (w32 (Aa (Ar a / 2 ^ n)))∧Below w.heap.size w w':=by
 have H1:=ko h1
 have HA:=ko ha
 obtain ⟨q,hq⟩:∃ q,q=n / 32:=⟨_,rfl⟩
 have hqi:(n:Int) / 32=(q:Int):=by omega
 have HQ:=ko hq
 clear h1 ha
 by_cases hbig:a.length≤q
 ·have hz:Aa (Ar a / 2 ^ n)=[]:=by
   have hl:=Br HA.out
   rw [←AbF] at hl
   rw [fg (ai hl (ao (by decide) (by omega))),Ax]
  have HZ:=ko hz
  have hbi:(a.length:Int)≤(q:Int):=by omega
  clear hz hq
  go_enter func72,ntmps72
  go_wp2_with fail
  go_ret
  exact ⟨none,0,by rw [HZ.out];rfl,fun _=>rfl,by rw [HZ.out];exact aa _,by rw [HZ.out];exact Aj.nil_,ab _ _⟩
 ·obtain ⟨L,hL⟩:∃ L,L=a.length - q:=⟨_,rfl⟩
  have hLi:(a.length:Int) - (q:Int)=(L:Int):=by omega
  have hbi:¬ (a.length:Int)≤(q:Int):=by omega
  have hL6:L≤100000:=by omega
  have HL:=ko hL
  obtain ⟨i0,hi,hz0,hz1,hz2⟩:=info_parts Ot
  clear hbig hq hL
  go_enter func72,ntmps72
  go_wp2_with (with_reducible refine wpList_make_full _ rfl (.tmp 22) (.tmp 22) 112 rfl w.heap.size 126 i0 (.int .u32 0) 1 Fj hi hz0 hz1 .i64 .i64 _ _ L rfl rfl rfl rfl (by rw [hz2];omega) (by unfold maxLen;omega) (aa _) ?_;intro w2 hown hg)
  have hst:=(ab w.heap.size w).grown hg (aa _) (fun k h=>by simp at h)
  have hown2:=Wp hown
  obtain ⟨g,hg1⟩:∃ g,g=w.heap.size:=⟨_,rfl⟩
  have hgw:=ko hg1
  rw [←hg1]
  rw [show CQ w2 w.heap.size (.slice (some ⟨w.heap.size,0,none⟩) L L) (List.replicate L 0)=CQ w2 w.heap.size (.slice (some ⟨g,0,none⟩) L L) (List.replicate L 0) by rw [hg1]] at hown2
  clear hown hg hi hz0 hz1 hz2 hg1
  go_loopw [26] (fun i wr=>AkB w a n q g L i wr) (fun i _=>L - (intOf i).toNat)
  case atStart=>exact ⟨0,[],ad _,rfl,by simpa using hown2,rfl,by simp [An],by simp [Ar,Nat.mod_one],hst⟩
  case round =>
   as_aux_lemma =>
   obtain ⟨k,os,hk,rfl,hown,hol,hok,hv,hb⟩:=hrel
   have HO:=ko hown
   have HOL:=ko hol
   have HOK:=ko hok
   have HV:=ko hv
   have hsz:=hb.size
   have hlen:=ko (show L=(os++List.replicate (L - k) 0).length by simp;omega)
   clear hown hol hok hv hown2 hst
   by_cases hlt:k<L
   ·as_aux_lemma =>
    obtain ⟨u,hu⟩:∃ u,u=q+k:=⟨_,rfl⟩
    have hul:u<a.length:=by have:=HL.out;omega
    obtain ⟨b1,o1,x,rfl,q1,_,hx,g1'⟩:=H1.out.w32_ hul
    have g1:=(hb.cell (p:=⟨b1,o1+u,none⟩) (ai q1 hm)).trans g1'
    have bx:=HA.out x (gM hx)
    have HX:=ko (show a[n / 32+k]?.getD 0=x by rw [←HQ.out,←hu,hx];rfl)
    obtain ⟨y,hy⟩:∃ y,y=a[u+1]?.getD 0:=⟨_,rfl⟩
    have HYU:=ko hy
    have HY:=ko (show a[n / 32+k+1]?.getD 0=y by rw [←HQ.out,←hu,hy])
    have by':y<4294967296:=by
     rw [hy]
     by_cases hyl:u+1<a.length
     ·rw [gE hyl];exact HA.out _ (fe hyl)
     ·rw [dg (by omega)];decide
    have w1:IntKind.i64.wrap ((k:Int)+(q:Int))=(u:Int):=by rw [gq];omega
    have w2':IntKind.i64.wrap ((u:Int)+1)=((u+1:Nat):Int):=by rw [gq];omega
    have w3:IntKind.u64.wrap ((y:Int)*4294967296)=(y:Int)*4294967296:=by rw [fj];omega
    obtain ⟨s,hs⟩:∃ s,s=x+4294967296*y:=⟨_,rfl⟩
    have hor:bits .or .u64 ((y:Int)*4294967296) (x:Int)=(s:Int):=by rw [hs];exact Agz by' bx
    obtain ⟨z,hzn⟩:∃ z:Nat,z=(x+y*4294967296) / 2 ^ (n % 32) % 4294967296:=⟨_,rfl⟩
    have hz:((s:Int) / 2 ^ (n % 32) % 4294967296)=(z:Int):=by rw [hzn,hs,aq 4294967296 y];simp
    have HZ:=ko (show z=(a[n / 32+k]?.getD 0+a[n / 32+k+1]?.getD 0*4294967296) / 2 ^ (n % 32) % 4294967296 by rw [HX.out,HY.out];exact hzn)
    have HZB:=ko (show z<4294967296 by rw [hzn];exact ek _ (by decide))
    have hul':(u:Int)<(a.length:Int):=by omega
    have hkl':(k:Int)<(L:Int):=by omega
    have hat:=fun nq=>Tf (some ⟨b1,o1,none⟩) a c (u+1) m (wr.drewN nq) (H1.out.below (below_drewN hb nq) hm) (by omega) (by omega)
    rw [←hy] at hat
    have HAT:=ko hat
    have f1:wr.cell? ⟨g,k,none⟩=some (.int .u32 0):=by
     have:=HO.out.cellA (j:=k) (z:=0) (by rw [ef (by rw [HOL.out];omega),HOL.out,du];rw [ja];simp;omega)
     simpa using this
    have f2:∀ j,wr.frozen? ⟨g,j,none⟩=false:=fun j=>HO.out.freeA hlen.out j
    clear hy hx hs hzn hu g1' hat
    go_wp2_with fail
    go_quiet ((go_at_call 163;exact Uy (HAT.out _)))
    go_wp2_with fail
    refine ⟨⟨k+1,os++[z],by omega,by go_num,?_,by rw [am,HOL.out];rfl,BM HOK.out HZB.out,Wf HA.out HOL.out HV.out HZ.out,?_⟩,by simp [intOf];omega⟩
    ·have h5:=((HO.out.drewN nq).put hlen.out k z)
     rw [Wq HOL.out hlt] at h5
     exact h5
    ·exact (below_drewN hb nq).setCell (by have:=hgw.out;simp;omega) _
   ·as_aux_lemma =>
    have hkL:k=L:=by omega
    have hle:¬ (k:Int)<(L:Int):=by omega
    have hO:=HO.out
    rw [hkL,du,List.replicate_zero,bd] at hO
    have hol:=HOL.out.trans hkL
    have hL6':os.length≤1000000:=by omega
    have HWV:=ko (AbD (k:=k) HA.out (by have:=HQ.out;have:=HL.out;omega) HV.out)
    have HGC:=ko hO.cap_.2.2.2
    have hcall:=Eq (some ⟨g,0,none⟩) os os.length wr.heap.size wr HGC.out (aa _) hL6'
    exact ze4f
theorem Tg {l:Nat} (hc:c<2 ^ r) (hl:l<4294967296) (hr:r≤32) (hd:l % 2 ^ r=0):bits .or .u32 (c:Int) (l:Int)=((c+l:Nat):Int)∧c+l<4294967296:=by
 have hp:=ba r
 have e0:=dh l (2 ^ r)
 rw [hd,bz] at e0
 have h32:2 ^ r*2 ^ (32 - r)=4294967296:=by rw [←ay,show r+(32 - r)=32 by omega]
 have hq:l / 2 ^ r<2 ^ (32 - r):=(ir hp).2 (by rw [aq];omega)
 have hs:c+l<4294967296:=by
  have h1:2 ^ r*(l / 2 ^ r+1)≤2 ^ r*2 ^ (32 - r):=fw _ hq
  rw [h32,cz,e0] at h1
  omega
 refine ⟨?_,hs⟩
 have hc32:c<4294967296:=by omega
 rw [(bits_nat .u32 32 (by decide) (fun n h0 h1=>by rw [iv];omega) c l (by omega) (by omega)).2]
 have h:=Nat.two_pow_add_eq_or_of_lt hc (l / 2 ^ r)
 rw [e0] at h
 rw [Nat.or_comm,←h,Nat.add_comm]
theorem AbG {x:Nat} (hr:r≤32):(x*2 ^ r) % 4294967296 % 2 ^ r=0:=by
 have h32:(4294967296:Nat)=2 ^ r*2 ^ (32 - r):=by rw [←ay,show r+(32 - r)=32 by omega]
 rw [h32,Nat.mod_mul_right_mod,Nat.mul_mod_left]
theorem ZH {pre:List Nat} {u:Nat} (hu:pre.length=u) (hm:0<m):((pre++cy::List.replicate m 0).set u z).set (u+1) c'=(pre++[z])++c'::List.replicate (m - 1) 0:=by
 subst hu
 obtain ⟨j,rfl⟩:∃ j,m=j+1:=⟨m - 1,by omega⟩
 simp [List.set_append,jr]
def AgE (w:World) (a:List Nat) (q p g L:Nat) (i:Value) (wr:World):Prop :=
 ∃ (k:Nat) (os:List Nat) (cy:Nat),k≤a.length∧i=.int .i64 (k:Int)∧CQ wr w.heap.size (.slice (some ⟨g,0,none⟩) L L) (os++cy::List.replicate (a.length - k) 0)∧os.length=q+k∧An os∧cy<p ∧
  Ar os+4294967296 ^ (q+k)*cy=Ar (a.take k)*(4294967296 ^ q*p)∧Below w.heap.size w wr
theorem AgF (h:p:=by
 go_enter func70,ntmps70
 go_wp2_with fail
 go_ret
 exact ⟨A,c,by rw [HE.out];rfl,hcc,by rw [HE.out];exact hcap,by rw [HE.out];exact H1.out.more hm,ab _ _⟩):p:=h
theorem Wr (A:Option Addr) (n0:Nat) (c n m:Nat) (w:World) (hm:m≤w.heap.size) (h1:Aj w m A (w32 (Aa n0))) (hcc:A=none→c=0) (hcap:(Aa n0).length≤c) (l1:(Aa n0).length≤100000) (hn:n≤1000000) :
    Calls prog 70 #[.slice A (Aa n0).length c,.int .i64 (n:Int)] w fun e w' =>
      ∃ G g,e=.returned (.slice G (Aa (n0*2 ^ n)).length g)∧(G=none→g=0)∧(Aa (n0*2 ^ n)).length≤g∧Aj w' w'.heap.size G (w32 (Aa (n0*2 ^ n)))∧Below w.heap.size w w':=by
  by_cases hz:n=0∨(Aa n0).length=0
  · have he:Aa (n0*2 ^ n)=Aa n0:=by
      rcases hz with h|h
      · rw [h];simp
      · have:n0=0:=by
          rcases cw n0 with h2|h2
          · exact h2
          · have:=Ce (n:=n0) (by omega);omega
        rw [this];simp
    have HE:=ko he
    have H1:=ko h1
    clear he h1
    by_cases hn0:n=0
    · subst hn0
      clear hz
      exact AgF
    · have hlz:(((Aa n0).length:Nat):Int)=0:=by rcases hz with h|h <;> omega
      have hlb:((((Aa n0).length:Nat):Int) == 0)=true:=by rw [hlz];rfl
      have hnb:((n:Int) == 0)=false:=by rw [beq_eq_false_iff_ne];omega
      have HLZ:=ko hlz
      clear hz hlz
      exact AgF
  · obtain ⟨a,ha'⟩:∃ a,a=Aa n0:=⟨_,rfl⟩
    have ha:An a:=by rw [ha'];exact Au n0
    have hv0:Ar a=n0:=by rw [ha',Ao]
    rw [←ha'] at h1 hcap l1 hz ⊢
    rw [←hv0]
    have hlb:(((a.length:Nat):Int) == 0)=false:=by rw [beq_eq_false_iff_ne];omega
    have hnb:((n:Int) == 0)=false:=by rw [beq_eq_false_iff_ne];omega
    clear hv0 ha' hz
    rw [Lz n]
    obtain ⟨q,hq⟩:∃ q,q=n / 32:=⟨_,rfl⟩
    obtain ⟨p,hp⟩:∃ p,p=2 ^ (n % 32):=⟨_,rfl⟩
    have hp0:0<p:=by rw [hp];exact ba _
    have hp32:p≤2147483648:=by
      rw [hp]
      exact ao (n := 2) (by decide) (show n % 32 ≤ 31 by omega)
    rw [←hq,←hp]
    have HP:=ko hp
    have H1:=ko h1
    have HA:=ko ha
    have hqi:(n:Int) / 32=(q:Int):=by omega
    have hq6:q≤31250:=by omega
    obtain ⟨L,hL⟩:∃ L,L=a.length+q+1:=⟨_,rfl⟩
    have hLi:(a.length:Int)+(q:Int)+1=(L:Int):=by omega
    have hL6:L≤200000:=by omega
    have HL:=ko hL
    obtain ⟨i0,hi,hz0,hz1,hz2⟩:=info_parts Ot
    clear h1 ha hp hq hL
    go_enter func70,ntmps70
    go_wp2_with (with_reducible refine wpList_make_full _ rfl (.tmp 28) (.tmp 28) 112 rfl w.heap.size 126 i0 (.int .u32 0) 1 Fj hi hz0 hz1 .i64 .i64 _ _ L rfl rfl rfl rfl (by rw [hz2];omega) (by unfold maxLen;omega) (aa _) ?_;intro w2 hown hg)
    have hst:=(ab w.heap.size w).grown hg (aa _) (fun k h=>by simp at h)
    have hown2:=Wp hown
    obtain ⟨g,hg1⟩:∃ g,g=w.heap.size:=⟨_,rfl⟩
    have hgw:=ko hg1
    rw [←hg1]
    rw [show CQ w2 w.heap.size (.slice (some ⟨w.heap.size,0,none⟩) L L) (List.replicate L 0)=CQ w2 w.heap.size (.slice (some ⟨g,0,none⟩) L L) (List.replicate L 0) by rw [hg1]] at hown2
    have hinit:List.replicate L 0=List.replicate q 0++0::List.replicate a.length 0:=by
      rw [HL.out,show a.length+q+1=q+(a.length+1) by omega,←List.replicate_append_replicate,jr]
    rw [hinit] at hown2
    clear hown hg hi hz0 hz1 hz2 hg1 hinit hLi
    go_loopw [32] (fun i wr=>AgE w a q p g L i wr) (fun i _=>a.length - (intOf i).toNat)
    case atStart=>exact ⟨0,List.replicate q 0,0,ad _,rfl,hown2,by simp,Ly q,hp0,by simp [DI,Ar],hst⟩
    case round =>
      as_aux_lemma =>
      obtain ⟨k,os,cy,hk,rfl,hown,hol,hok,hcy,hv,hb⟩:=hrel
      have HO:=ko hown
      have HOL:=ko hol
      have HOK:=ko hok
      have HV:=ko hv
      have HCY:=ko hcy
      have hsz:=hb.size
      have hlen := ko (show L = (os ++ cy :: List.replicate (a.length - k) 0).length by have := HL.out; simp; omega)
      clear hown hol hok hv hown2 hst hcy
      by_cases hlt:k<a.length
      · as_aux_lemma =>
        obtain ⟨u,hu⟩:∃ u,u=k+q:=⟨_,rfl⟩
        have huu:(k:Int)+(q:Int)=(u:Int):=by omega
        have HU:=ko hu
        have huL:(u:Int)+1<(L:Int):=by have:=HL.out;omega
        obtain ⟨b1,o1,x,rfl,q1,_,hx,g1'⟩:=H1.out.w32_ hlt
        have g1:=(hb.cell (p:=⟨b1,o1+k,none⟩) (ai q1 hm)).trans g1'
        have bx:=HA.out x (gM hx)
        have HX := ko (show a[k]?.getD 0 = x by rw [hx]; rfl)
        have hr31:n % 32≤31:=by omega
        obtain ⟨t,ht⟩:∃ t,t=x*p:=⟨_,rfl⟩
        have htb:t<9223372036854775808:=by
          rw [ht]
          have:x*p≤4294967295*2147483648:=ei (by omega) hp32
          omega
        have hT:IntKind.u64.wrap ((x:Int)*2 ^ (n % 32))=(t:Int):=by
          have e1:(x:Int)*2 ^ (n % 32)=((x*2 ^ (n % 32):Nat):Int):=by simp
          rw [e1,←HP.out,←ht,fj]
          omega
        obtain ⟨lw,hlw⟩:∃ lw,lw=t % 4294967296:=⟨_,rfl⟩
        have hlwi:(t:Int) % 4294967296=(lw:Int):=by omega
        obtain ⟨c',hc'⟩:∃ c',c'=t / 4294967296:=⟨_,rfl⟩
        have hci:(t:Int) / 4294967296=(c':Int):=by omega
        have hcb:c'<4294967296:=by omega
        have hcp:=Wc HCY.out bx
        have hor:=Tg (c:=cy) (l:=lw) (r:=n % 32) (by rw [←HP.out];exact HCY.out) (by omega) (by omega) (by rw [hlw,ht,HP.out];exact AbG (by omega))
        have hor1:=hor.1
        obtain ⟨z,hzn⟩:∃ z,z=cy+lw:=⟨_,rfl⟩
        rw [←hzn] at hor1
        have HZB := ko (show z < 4294967296 by rw [hzn]; exact hor.2)
        have HZ := ko (show z + 4294967296 * c' = cy + x * p by rw [hzn, hlw, hc', ← ht]; omega)
        have HCP := ko (show c' < p by
          have h5:=HZ.out
          have h6:=HZB.out
          have h7:(cy+x*p) / 4294967296=c':=by omega
          rw [←h7]
          exact hcp)
        have f1:wr.cell? ⟨g,u,none⟩=some (.int .u32 (cy:Int)):=HO.out.cellA (by rw [ef (by rw [HOL.out,hu];omega),HOL.out,hu,show k+q - (q+k)=0 by omega];rfl)
        have f2:∀ j,wr.frozen? ⟨g,j,none⟩=false:=fun j=>HO.out.freeA hlen.out j
        have f3:wr.cell? ⟨g,u+1,none⟩=some (.int .u32 0):=by
          have:=HO.out.cellA (j:=u+1) (z:=0) (by
            rw [ef (by rw [HOL.out,hu];omega),HOL.out,hu,show k+q+1 - (q+k)=0+1 by omega,fk,ja,if_pos (by omega)])
          simpa using this
        have hgne:g<wr.heap.size:=(World.ownsRow.lt HO.out g rfl).2
        have hbg:b1≠g:=by have:=hgw.out;omega
        clear hx g1' ht hlw hc' hcp hor hzn hu
        go_wp2_with fail
        refine ⟨⟨k+1,os++[z],c',by omega,by go_num,?_,by rw [am,HOL.out];rfl,BM HOK.out HZB.out,HCP.out,Wd HOL.out HX.out HV.out HZ.out,?_⟩,by simp [intOf];omega⟩
        · have h5:=((HO.out.put hlen.out u z).put (by rw [di];exact hlen.out) (u+1) c')
          rw [ZH (by rw [HOL.out,HU.out];omega) (by omega),show a.length - k - 1=a.length - (k+1) by omega] at h5
          exact h5
        · exact (hb.setCell (by have:=hgw.out;simp;omega) _).setCell (by have:=hgw.out;simp;omega) _
      · as_aux_lemma =>
        have hkL:k=a.length:=by omega
        have hle:¬ (k:Int)<(a.length:Int):=by omega
        have hO:=HO.out
        rw [hkL,du,List.replicate_zero] at hO
        obtain ⟨ws,hws⟩:∃ ws,ws=os++[cy]:=⟨_,rfl⟩
        rw [←hws] at hO
        have hwl:ws.length=L:=by rw [hws,am,HOL.out,HL.out,hkL];simp;omega
        have hwok:An ws:=by rw [hws];exact BM HOK.out (by have:=HCY.out;omega)
        have hwv:Ar ws=Ar a*(4294967296 ^ q*p):=by
          have hv:=HV.out
          rw [ap (by omega)] at hv
          rw [hws,Bu,HOL.out,←hv]
          simp only [Ar,Nat.mul_zero,bz]
        have hcall:=Eq (some ⟨g,0,none⟩) ws ws.length wr.heap.size wr hO.cap_.2.2.2 (aa _) (by omega)
        have HGC:=ko hO.cap_.2.2.2
        rw [hwl] at hcall
        have HCALL:=ko hcall
        have HWO:=ko hwok
        have HWV:=ko hwv
        have HWL:=ko hwl
        clear hkL hO hws hwl hwok hwv hcall
        go_wp2_with (go_at_call 161;refine HCALL.out.mono ?_;rintro e w3 ⟨rfl,rfl⟩)
        go_ret
        have hcan:=Cd HWO.out
        rw [HWV.out] at hcan
        refine ⟨some ⟨g,0,none⟩,L,by rw [hcan];rfl,by simp,?_,?_,hb⟩
        · rw [←hcan,BN]
          have:=Df ws ws.length
          have:=HWL.out
          omega
        · rw [←hcan]
          exact HGC.out.takeW _
theorem Ip {P:Program} {t t2 e e2:TypeId} (ht:P.underlying t=some (.slice e)) (ht2:P.underlying t2=some (.slice e2)) (ty:TypeId) (s x:Value) (w:World) :
  (Builtin.append_ #[t,t2] ty #[s,x]).run P w=(Builtin.append_ #[t,t] ty #[s,x]).run P w:=by
 cases s with
 | slice base sl sc=>simp [Builtin.append_,run_underlying ht,run_underlying ht2]
 | _=>simp [Builtin.append_,run_underlying ht]
theorem Ws {a:Act} (hgd:o.guard=none) (s x:Operand)
  (ho:o.op=.call { callee:=.builtin .append,args:=#[s,x],argTypes:=#[41,112] })
  (base:Nat) (v:Value) (xs ys:List Nat) (A:Option Addr) (c m:Nat) (hs:a.eval s=v) (hown:CQ w base v xs) (hx:a.eval x=.slice A ys.length c) (hn:A=none→c=0) (hc:Aj w m A (w32 ys))
  (hlen:xs.length+ys.length≤1000000) (hbase:base≤w.heap.size)
  (h:∀ v' w',CQ w' base v' (xs++ys)→Below base w w'→wpList prog ops Q rest (a.put o.dst v') w'):wpList prog ops Q (o::rest) a w:=by
 obtain ⟨i0,hi,hz0,hz1,hz2⟩:=info_parts AbC
 rcases A with _|⟨b,off,l⟩
 ·have hy:ys=[]:=by
   rcases ys with _|⟨y,ys⟩
   ·rfl
   ·obtain ⟨b,off,hA,_⟩:=hc (by simp [w32])
    cases hA
  subst hy
  have hc0:=hn rfl
  subst hc0
  refine wpList_plain hgd fun K hK=>?_
  have hrun:=run_append_owned_none (P:=prog) (w:=w) base 41 o.type 126 i0 1 Gp hi v xs.length (w32 xs) hown
  rw [←Ip Gp Fj] at hrun
  have hx':a.eval x=.slice none 0 0:=hx
  unfold Oper.wp
  simp only [execOp,ho,resolve,invoke,builtin,ah,bo,av,List.map_toArray,bk,List.map_nil,hs,hx',hrun]
  exact hK _ _ (h v w (by rw [bd];exact hown) (ab _ _))
 ·have hcell:∀ j u,(w32 ys)[j]?=some u→w.cell? ((⟨b,off,l⟩:Addr).add j)=some u:=by
   intro j u hu
   exact ze8f
  have hone:∀ u∈w32 ys,u.oneCell'=true:=by
   intro u hu
   obtain ⟨z,_,rfl⟩:=List.mem_map.1 hu
   rfl
  obtain ⟨v',w',hr,h2,h3,h4⟩:=run_append_own (P:=prog) w base 41 o.type 126 i0 (.int .u32 0) 1 4 Gp hi hz0 hz1 hz2 rfl (by decide) v xs.length (w32 xs) hown ⟨b,off,l⟩ ys.length c (w32 ys) (by simp [w32]) hcell hone (by unfold maxLen;omega) (by omega) hbase
  rw [←Ip Gp Fj] at hr
  refine wpList_plain hgd fun K hK=>?_
  unfold Oper.wp
  simp only [execOp,ho,resolve,invoke,builtin,ah,bo,av,List.map_toArray,bk,List.map_nil,hs,hx,hr]
  refine hK _ _ (h v' w' ?_ ((ab base w).grown h3 hbase (fun g hg=>(World.ownsRow.lt hown g hg).1)))
  have e:w32 (xs++ys)=w32 xs++w32 ys:=by simp [w32]
  unfold CQ
  rw [e,am]
  exact h2
theorem ze9f (h:p:=by
 go_wp2_with fail
 go_quiet (fail)
 go_wp2_with fail
 go_quiet (fail)
 go_wp2_with fail
 go_ret
 exact ⟨by rw [HV.out];rfl,by repeat (first|exact ab _ _|refine PE ?_ _)⟩):p:=h
theorem AgG (h:p:=by
 clear hab hl hlt
 go_enter func57,ntmps57
 go_wp2_with fail
 go_ret
 exact ⟨by rw [HV.out];rfl,ab _ _⟩):p:=h
theorem RE (A B:Option Addr) (a b:Nat) (c1 c2 m:Nat) (w:World) (h1:Aj w m A (w32 (Aa a))) (h2:Aj w m B (w32 (Aa b))) (l1:(Aa a).length≤100000) (l2:(Aa b).length≤100000) :
  Calls prog 57 #[.slice A (Aa a).length c1,.slice B (Aa b).length c2] w fun e w'=>e=.returned (.int .i64 (sgI ((a:Int) - (b:Int))))∧Below w.heap.size w w':=by
 have H1:=ko h1
 have H2:=ko h2
 clear h1 h2
 by_cases hl:(Aa a).length=(Aa b).length
 ·have HL:=ko hl
  have e1:(((Aa a).length:Int) != ((Aa b).length:Int))=false:=by simp;omega
  clear hl
  go_enter func57,ntmps57
  go_wp2_with fail
  go_loopw [5] (fun i wr=>Ags w (Aa a) (Aa b) i wr) (fun i _=>(intOf i+1).toNat)
  case atStart=>exact ⟨(Aa a).length,0,aa _,rfl,by rw [ga,HL.out,ga],rfl⟩
  case round =>
   as_aux_lemma =>
   obtain ⟨k,nq,hk,rfl,hd,rfl⟩:=hrel
   have HD:=ko hd
   clear hd
   by_cases h0:k=0
   ·subst h0
    go_wp2_with fail
    go_ret
    refine ⟨?_,below_drewN (ab _ _) _⟩
    have:=HD.out
    simp at this
    have hab:a=b:=by rw [←Ao a,←Ao b,this]
    subst hab
    have:sgI ((a:Int) - (a:Int))=0:=by rw [Int.sub_self];rfl
    rw [this]
    rfl
   ·obtain ⟨j,rfl⟩:=iz h0
    obtain ⟨b1,o1,x,rfl,_,_,hx,g1⟩:=H1.out.w32_ (k:=j) (by omega)
    obtain ⟨b2,o2,y,rfl,_,_,hy,g2⟩:=H2.out.w32_ (k:=j) (by have:=HL.out;omega)
    have HX:=ko hx
    have HY:=ko hy
    have hj:((j.succ:Nat):Int) - 1=(j:Int):=by omega
    have hja:(j:Int)<((Aa a).length:Int):=by omega
    have hjb:(j:Int)<((Aa b).length:Int):=by have:=HL.out;omega
    rw [hj]
    clear hx hy h0
    by_cases hxy:x=y
    ·subst hxy
     have e2:((x:Int) != (x:Int))=false:=by simp
     go_wp2_with fail
     go_quiet (fail)
     go_wp2_with fail
     exact ⟨⟨j,_,by omega,by go_num,PK HX.out HY.out HD.out,rfl⟩,by simp [intOf];try omega⟩
    ·have e2:((x:Int) != (y:Int))=true:=by simp;omega
     have hla:=VY (Au a) (Au b) HX.out HY.out HD.out hxy
     rw [Ao,Ao] at hla
     by_cases hlt:x<y
     ·have e3:decide ((x:Int)<(y:Int))=true:=decide_eq_true (by omega)
      have hab:a<b:=by rw [decide_eq_true hlt] at hla;simpa using hla
      have HV:=ko (show sgI ((a:Int) - (b:Int)) = -1 by unfold sgI;rw [if_neg (by omega),if_pos (by omega)])
      clear hla hab hxy
      exact ze9f
     ·have e3:decide ((x:Int)<(y:Int))=false:=decide_eq_false (by omega)
      have hab:¬ a<b:=by rw [decide_eq_false hlt] at hla;simpa using hla
      have hba:b<a:=by
       rcases bu b a with h|h
       ·exact h
       ·exfalso
        have:a=b:=by omega
        subst this
        have:=HX.out.symm.trans HY.out
        simp at this
        exact hxy this
      have HV:=ko (show sgI ((a:Int) - (b:Int))=1 by unfold sgI;rw [if_neg (by omega),if_neg (by omega)])
      clear hla hab hba hxy
      exact ze9f
 ·have e1:(((Aa a).length:Int) != ((Aa b).length:Int))=true:=by simp;omega
  by_cases hlt:(Aa a).length<(Aa b).length
  ·have hli:((Aa a).length:Int)<((Aa b).length:Int):=by omega
   have hab:a<b:=by
    rcases bu a b with h|h
    ·exact h
    ·have:=AC h;omega
   have HV:=ko (show sgI ((a:Int) - (b:Int)) = -1 by unfold sgI;rw [if_neg (by omega),if_pos (by omega)])
   exact AgG
  ·have hli:¬ ((Aa a).length:Int)<((Aa b).length:Int):=by omega
   have hab:b<a:=by
    rcases bu b a with h|h
    ·exact h
    ·have:=AC h;omega
   have HV:=ko (show sgI ((a:Int) - (b:Int))=1 by unfold sgI;rw [if_neg (by omega),if_neg (by omega)])
   exact AgG
theorem Adl (h:WdR w m v n) (hl:(Aa n).length≤1000000):Calls prog 161 #[v] w fun e w'=>e=.returned v∧w=w':=by
 obtain ⟨A,c,rfl,h1,h2,h3⟩:=h
 have h:=Eq A (Aa n) c m w h3 h2 hl
 have e:Gn (Aa n)=Aa n:=by rw [Cd (Au n),Ao]
 rw [e] at h
 exact h
theorem Ov (h:WdR w m v n) (hm:m≤w.heap.size) (hl:(Aa n).length≤100000) (hk:k≤1000000) :
  Calls prog 72 #[v,.int .i64 (k:Int)] w fun e w'=>∃ v',e=.returned v'∧WdR w' w'.heap.size v' (n / 2 ^ k)∧Below w.heap.size w w':=by
 obtain ⟨A,c,rfl,h1,h2,h3⟩:=h
 refine (UC A (Aa n) c k m w hm h3 (Au n) hl hk).mono ?_
 rintro e w' ⟨G,g,rfl,g1,g2,g3,hb⟩
 rw [Ao] at g2 g3 ⊢
 exact ⟨_,rfl,⟨G,g,rfl,g1,g2,g3⟩,hb⟩
theorem RF (h:WdR w m v n) (hm:m≤w.heap.size) (hl:(Aa n).length≤100000) (hk:k≤1000000) :
  Calls prog 70 #[v,.int .i64 (k:Int)] w fun e w'=>∃ v',e=.returned v'∧WdR w' w'.heap.size v' (n*2 ^ k)∧Below w.heap.size w w':=by
 obtain ⟨A,c,rfl,h1,h2,h3⟩:=h
 refine (Wr A n c k m w hm h3 h1 h2 hl hk).mono ?_
 rintro e w' ⟨G,g,rfl,g1,g2,g3,hb⟩
 exact ⟨_,rfl,⟨G,g,rfl,g1,g2,g3⟩,hb⟩
theorem Ho {a:Nat} (h:WdR w m v a) (h2:WdR w m v2 b) (hl:(Aa a).length≤100000) (hl2:(Aa b).length≤100000) :
  Calls prog 57 #[v,v2] w fun e w'=>e=.returned (.int .i64 (sgI ((a:Int) - (b:Int))))∧Below w.heap.size w w':=by
 obtain ⟨A,c,rfl,h1,h1',h3⟩:=h
 obtain ⟨A2,c2,rfl,k1,k1',k3⟩:=h2
 exact RE A A2 a b c c2 m w h3 k3 hl hl2
theorem Adm (h:WdR w m v n) (hm:m≤w.heap.size) (hl:(Aa n).length≤100000) (ht:Al w) :
  Calls prog 162 #[v] w fun e w'=>(∃ z:Nat,e=.returned (.int .i64 (z:Int))∧(n=0→z=1099511627776)∧(n≠0→AgC n z∧z≤3200000))∧w=w':=by
 obtain ⟨A,c,rfl,h1,h2,h3⟩:=h
 exact Wo A n c m w hm h3 hl ht
theorem Wt {neg:Bool} {n den z:Nat} (hz:n % 2 ^ z=0):∀ k,k≤z→k≤den→nf (sg neg n) den=nf (sg neg (n / 2 ^ k)) (den - k)
 | 0,_,_=>by simp
 | k+1,h1,h2=>by
  rw [Wt hz k (by omega) (by omega),Wj (by omega) ?_]
  have e:=dh n (2 ^ z)
  rw [hz,bz] at e
  have es:2 ^ z=2 ^ k*(2*2 ^ (z - k - 1)):=by rw [←gn,←ay];congr 1;omega
  rw [←e,es,al,al,kh _ (ba k)]
  omega
theorem AkC (h:AgC n z):nf (sg neg n) den=(sg neg (n / 2 ^ (min z den)),den - min z den):=by
 rw [Wt h.1 (min z den) (by omega) (by omega)]
 refine EJ (fun h0=>?_)
 have:min z den=z:=by omega
 rw [this]
 have:=h.2
 unfold sg
 split <;> omega
theorem Gq (h2:tmps.getD 6 undef=.pointer (some ⟨b,0,none⟩)) (hB:BG w b [v0,v1,v2] 43) :
  (results Tryz.f71 tmps).run prog w=.ok (.agg #[v0,v1,v2]) w:=by
 have k0:=hB.cell 0
 have k1:=hB.cell 1
 have k2:=hB.cell 2
 simp at k0 k1 k2
 simp at h2
 simp [results,results71,go_sem,h2,k0,k1,k2]
theorem al_ (u:World) (o:Obj):Below u.heap.size u (u.alloc o):=(ab _ u).alloc (aa _) o
theorem ze7f (h:p:=by
 go_wp2_with fail
 refine bodyPost_ret (Gq rfl (((u1.set_ 0 _).set_ 1 _).set_ 2 _)) rfl ⟨_,rfl,?_,((bv.setCell (by simp) _).setCell (by simp) _).setCell (by simp) _⟩
 rw [HRES.out]
 exact DyR.zero_ _ _ _):p:=h
theorem Dk (h:WdR w m v n) (hm:m≤w.heap.size) (hl:(Aa n).length≤100000) (hd:d≤65536) (ht:Al w) :
    Calls prog 71 #[.bool neg,v,.int .i64 (d:Int)] w fun e w' =>
      ∃ v',e=.returned v'∧DyR w' w.heap.size w'.heap.size v' (nf (sg neg n) d).1 (nf (sg neg n) d).2∧Below w.heap.size w w':=by
  obtain ⟨A0,L0,c0,rfl⟩:=h.form
  have X:=ko h
  have HT:=ko ht
  clear h ht
  have b0:Below w.heap.size w (w.alloc (.cells #[.bool false,.slice none 0 0,.int .i64 0] 43)):=Aq (ab _ _) _
  have r0:=BG.new_ w [.bool false,.slice none 0 0,.int .i64 0] 43
  go_enter func71,ntmps71
  go_wp2_with fail
  go_at_call 161
  refine (Adl (X.out.below b0 hm) (by omega)).mono ?_
  rintro e w3 ⟨rfl,rfl⟩
  go_wp2_with fail
  go_at_call 162
  refine (Adm (X.out.below b0 hm) (by simp;omega) (by omega) (HT.out.call (al_ _ _))).mono ?_
  rintro e w3 ⟨⟨z,rfl,hz1,hz2⟩,rfl⟩
  obtain ⟨k,hk⟩:∃ k:Nat,k=min z d:=⟨_,rfl⟩
  have hmin:min (z:Int) (d:Int)=(k:Int):=by omega
  have hkd:k≤d:=by omega
  have hdk:¬ (65536:Int)<(d:Int) - (k:Int):=by omega
  have hdk0:¬ (65536:Int)<(d:Int):=by omega
  have hzz:z≤1099511627776:=by
    by_cases h0:n=0
    · have:=hz1 h0;omega
    · have:=(hz2 h0).2;omega
  have hval:n≠0→nf (sg neg n) d=(sg neg (n / 2 ^ k),d - k):=fun h0=>by rw [hk];exact AkC (hz2 h0).1
  have hn2:n≠0→n / 2 ^ k≠0:=fun h0 h1=>by
    have h3:=(hz2 h0).1
    have h4:n / 2 ^ z=0:=by
      have hle:2 ^ k≤2 ^ z:=ao (by decide) (by omega)
      have:=Nat.lt_of_div_eq_zero (ba k) h1
      exact fg (ai this hle)
    have:=h3.2
    rw [h4] at this
    simp at this
  have hk0:n=0→k=d:=fun h0=>by have:=hz1 h0;omega
  have HVAL:=ko hval
  have HN2:=ko hn2
  have HK0:=ko hk0
  clear hz1 hz2 hk hval hn2 hk0
  by_cases hk1:k=0
  · as_aux_lemma =>
    have hkp:¬ 0<k:=by omega
    have hkp':¬ (0:Int)<(k:Int):=by omega
    by_cases hn:n=0
    · as_aux_lemma =>
      obtain ⟨wv,hwv⟩:∃ wv,wv=w.alloc (.cells #[.bool false,.slice none 0 0,.int .i64 0] 43):=⟨_,rfl⟩
      rw [←hwv]
      have rv:BG wv w.heap.size [.bool false,.slice none 0 0,.int .i64 0] 43:=by rw [hwv];exact r0
      have bv:Below w.heap.size w wv:=by rw [hwv];exact b0
      have Y0:=X.out.below bv hm
      clear hwv r0 b0
      have HRES := ko (show nf (sg neg n) d = (0, 0) by rw [hn, show sg neg 0 = 0 by unfold sg; split <;> rfl]; exact RB d)
      have hL:(L0:Int)=0:=by
        obtain ⟨A,c,he,_⟩:=Y0
        cases he
        rw [hn,Ax];rfl
      have hLb:((L0:Int) == 0)=true:=by rw [hL];rfl
      have HLZ:=ko hL
      subst hk1
      clear hL hn Y0
      have u1:=rv
      have q0:wv.cell? ⟨w.heap.size,0,none⟩=some (.bool false):=u1.cell 0
      have q1:wv.cell? ⟨w.heap.size,1,none⟩=some (.slice none 0 0):=u1.cell 1
      have q2:wv.cell? ⟨w.heap.size,2,none⟩=some (.int .i64 0):=u1.cell 2
      have qf:=u1.free
      have hu1:=u1.lt
      exact ze7f
    · as_aux_lemma =>
      obtain ⟨wv,hwv⟩:∃ wv,wv=w.alloc (.cells #[.bool false,.slice none 0 0,.int .i64 0] 43):=⟨_,rfl⟩
      rw [←hwv]
      have rv:BG wv w.heap.size [.bool false,.slice none 0 0,.int .i64 0] 43:=by rw [hwv];exact r0
      have bv:Below w.heap.size w wv:=by rw [hwv];exact b0
      have Y0:=X.out.below bv hm
      clear hwv r0 b0
      obtain ⟨y,hy⟩:∃ y,y=n / 2 ^ k:=⟨_,rfl⟩
      have HRES := ko (show nf (sg neg n) d = (sg neg y, d - k) by rw [HVAL.out hn, hy])
      have HODD := ko (show d - k ≠ 0 → sg neg y % 2 = 1 by
        have h5:=Wh (sg neg n) d
        rw [HRES.out] at h5
        exact h5)
      have HY0 := ko (show y ≠ 0 by rw [hy]; exact HN2.out hn)
      have hyl:(Aa y).length≤100000:=lT (AC (by rw [hy];exact iu _ _)) hl
      have hyp:=Ce HY0.out
      have e0:(((Aa y).length:Int) == 0)=false:=by rw [beq_eq_false_iff_ne];omega
      have hyn:y=n:=by rw [hy,hk1];simp
      subst hk1
      rw [←hyn] at Y0
      obtain ⟨A5,c5,he5,g1,g2,g3⟩:=Y0
      cases he5
      have G3:=ko g3
      obtain ⟨hi5,hhi5⟩:∃ hi5,hi5=m:=⟨_,rfl⟩
      rw [←hhi5] at g3
      clear hy hn hyn hhi5
      go_wp2_with (at_builtin
                   refine Ws rfl _ _ rfl wv.heap.size _ [] (Aa y) A0 c0 hi5 rfl (CQ.nil_ _ _) rfl g1 g3 (by simp;omega) (aa _) ?_
                   intro v' w4 hown4 hb4
                   rw [dp] at hown4
                   obtain ⟨A',c',rfl,_,_⟩:=hown4.view
                   have u1:=rv.call hb4
                   have bv4:=bv.trans (hb4.mono (by have:=bv.size;omega))
                   have hsv:=rv.lt
                   have hsz4:=hb4.size
                   clear hb4
                   have q0:w4.cell? ⟨w.heap.size,0,none⟩=some (.bool false):=u1.cell 0
                   have q1:w4.cell? ⟨w.heap.size,1,none⟩=some (.slice none 0 0):=u1.cell 1
                   have q2:w4.cell? ⟨w.heap.size,2,none⟩=some (.int .i64 0):=u1.cell 2
                   have qf:=u1.free
                   have hu1:=u1.lt)
      have hown5:CQ (((w4.setCell ⟨w.heap.size,0,none⟩ (.bool neg)).setCell ⟨w.heap.size,1,none⟩ (.slice A' (Aa y).length c')).setCell ⟨w.heap.size,2,none⟩ (.int .i64 (d:Int))) wv.heap.size (.slice A' (Aa y).length c') (Aa y):=ownsRow_setCell_below (ownsRow_setCell_below (ownsRow_setCell_below hown4 (by simp;omega) _) (by simp;omega) _) (by simp;omega) _
      refine bodyPost_ret (Gq rfl (((u1.set_ 0 _).set_ 1 _).set_ 2 _)) rfl ⟨_,rfl,?_,((bv4.setCell (by simp) _).setCell (by simp) _).setCell (by simp) _⟩
      rw [HRES.out]
      obtain ⟨_,hcl,hn',hc'⟩:=hown5.cap_
      refine ⟨A',c',?_,hn',?_,?_,?_,by show d - 0≤65536;omega,?_⟩
      · rw [Gf,Wi HY0.out]
        have:(d:Int)=((d - 0:Nat):Int):=by omega
        rw [this]
      · rw [Gf];exact hcl
      · rw [Gf];exact hc'
      · intro a ha
        have:=(World.ownsRow.lt hown5 a.block (by rw [ha];rfl)).1
        have:=bv.size
        omega
      · intro h
        have h5:=HODD.out h
        exact h5
  · have hkp:0<k:=by omega
    have hkp':(0:Int)<(k:Int):=by omega
    by_cases hn:n=0
    · as_aux_lemma =>
      have HRES := ko (show nf (sg neg n) d = (0, 0) by rw [hn, show sg neg 0 = 0 by unfold sg; split <;> rfl]; exact RB d)
      have hkd0:=HK0.out hn
      go_wp2_with fail
      go_at_call 72
      refine (Ov (X.out.below b0 hm) (by simp;omega) hl (by omega)).mono ?_
      rintro e wv ⟨v5,rfl,Y0,hb5⟩
      have rv:=r0.call hb5
      have bv:=b0.trans (hb5.mono (by simp))
      clear hb5 r0 b0
      rw [hn,Nat.zero_div] at Y0
      obtain ⟨A5,c5,he5,g1,g2,g3⟩:=Y0
      rw [Ax] at he5
      subst he5
      clear hn g1 g2 g3
      have u1:=rv
      have q0:wv.cell? ⟨w.heap.size,0,none⟩=some (.bool false):=u1.cell 0
      have q1:wv.cell? ⟨w.heap.size,1,none⟩=some (.slice none 0 0):=u1.cell 1
      have q2:wv.cell? ⟨w.heap.size,2,none⟩=some (.int .i64 0):=u1.cell 2
      have qf:=u1.free
      have hu1:=u1.lt
      exact ze7f
    · as_aux_lemma =>
      obtain ⟨y,hy⟩:∃ y,y=n / 2 ^ k:=⟨_,rfl⟩
      have HRES := ko (show nf (sg neg n) d = (sg neg y, d - k) by rw [HVAL.out hn, hy])
      have HODD := ko (show d - k ≠ 0 → sg neg y % 2 = 1 by
        have h5:=Wh (sg neg n) d
        rw [HRES.out] at h5
        exact h5)
      have HY0 := ko (show y ≠ 0 by rw [hy]; exact HN2.out hn)
      have hyl:(Aa y).length≤100000:=lT (AC (by rw [hy];exact iu _ _)) hl
      have hyp:=Ce HY0.out
      have e0:(((Aa y).length:Int) == 0)=false:=by rw [beq_eq_false_iff_ne];omega
      clear hn
      go_wp2_with fail
      go_at_call 72
      refine (Ov (X.out.below b0 hm) (by simp;omega) hl (by omega)).mono ?_
      rintro e wv ⟨v5,rfl,Y0,hb5⟩
      have rv:=r0.call hb5
      have bv:=b0.trans (hb5.mono (by simp))
      clear hb5 r0 b0
      rw [←hy] at Y0
      obtain ⟨A5,c5,rfl,g1,g2,g3⟩:=Y0
      obtain ⟨hi5,hhi5⟩:∃ hi5,hi5=wv.heap.size:=⟨_,rfl⟩
      rw [←hhi5] at g3
      clear hy hhi5
      go_wp2_with (at_builtin
                   refine Ws rfl _ _ rfl wv.heap.size _ [] (Aa y) A5 c5 hi5 rfl (CQ.nil_ _ _) rfl g1 g3 (by simp;omega) (aa _) ?_
                   intro v' w4 hown4 hb4
                   rw [dp] at hown4
                   obtain ⟨A',c',rfl,_,_⟩:=hown4.view
                   have u1:=rv.call hb4
                   have bv4:=bv.trans (hb4.mono (by have:=bv.size;omega))
                   have hsv:=rv.lt
                   have hsz4:=hb4.size
                   clear hb4
                   have q0:w4.cell? ⟨w.heap.size,0,none⟩=some (.bool false):=u1.cell 0
                   have q1:w4.cell? ⟨w.heap.size,1,none⟩=some (.slice none 0 0):=u1.cell 1
                   have q2:w4.cell? ⟨w.heap.size,2,none⟩=some (.int .i64 0):=u1.cell 2
                   have qf:=u1.free
                   have hu1:=u1.lt)
      have hown5:CQ (((w4.setCell ⟨w.heap.size,0,none⟩ (.bool neg)).setCell ⟨w.heap.size,1,none⟩ (.slice A' (Aa y).length c')).setCell ⟨w.heap.size,2,none⟩ (.int .i64 ((d:Int) - (k:Int)))) wv.heap.size (.slice A' (Aa y).length c') (Aa y):=ownsRow_setCell_below (ownsRow_setCell_below (ownsRow_setCell_below hown4 (by simp;omega) _) (by simp;omega) _) (by simp;omega) _
      refine bodyPost_ret (Gq rfl (((u1.set_ 0 _).set_ 1 _).set_ 2 _)) rfl ⟨_,rfl,?_,((bv4.setCell (by simp) _).setCell (by simp) _).setCell (by simp) _⟩
      rw [HRES.out]
      obtain ⟨_,hcl,hn',hc'⟩:=hown5.cap_
      refine ⟨A',c',?_,hn',?_,?_,?_,by show d - k≤65536;omega,?_⟩
      · rw [Gf,Wi HY0.out]
        have:((d:Int) - (k:Int))=((d - k:Nat):Int):=by omega
        rw [this]
      · rw [Gf];exact hcl
      · rw [Gf];exact hc'
      · intro a ha
        have:=(World.ownsRow.lt hown5 a.block (by rw [ha];rfl)).1
        have:=bv.size
        omega
      · intro h
        have h5:=HODD.out h
        exact h5
theorem Wu (m:Int):∀ (k d:Nat),nf (m*2 ^ k) d=if k≤d then nf m (d - k) else (m*2 ^ (k - d),0)
 | 0,d=>by simp
 | k+1,0=>rfl
 | k+1,d+1=>by
  have e1:m*2 ^ (k+1)=2*(m*2 ^ k):=by rw [Int.pow_succ,←ar,ej]
  have h:nf (m*2 ^ (k+1)) (d+1)=nf (m*2 ^ k) d:=by
   rw [e1]
   show (if (2*(m*2 ^ k)) % 2=0 then nf (2*(m*2 ^ k) / 2) d else _)=_
   rw [if_pos (by omega),show 2*(m*2 ^ k) / 2=m*2 ^ k by omega]
  rw [h,Wu m k d]
  by_cases hk:k≤d
  ·rw [if_pos hk,if_pos (by omega),show d+1 - (k+1)=d - k by omega]
  ·rw [if_neg hk,if_neg (by omega),show k+1 - (d+1)=k - d by omega]
theorem Np (u:Nat) (w:World) (hu:u<18446744073709551616) :
  Calls prog 160 #[.int .u64 (u:Int)] w fun e w'=>∃ v',e=.returned v'∧WdR w' w'.heap.size v' u∧Below w.heap.size w w':=by
 obtain ⟨lo,hlo⟩:∃ lo:Nat,(u:Int) % 4294967296=(lo:Int):=⟨(u % 4294967296:Nat),by omega⟩
 obtain ⟨hi,hhi⟩:∃ hi:Nat,(u:Int) / 4294967296=(hi:Int):=⟨(u / 4294967296:Nat),by omega⟩
 have hib:hi<4294967296:=by omega
 have lob:lo<4294967296:=by omega
 have hval:Ar [lo,hi]=u:=by rw [Ou];omega
 have HV:=ko hval
 have c0:Aj (w.alloc (.cells #[.int .u32 (lo:Int),.int .u32 (hi:Int)] 126)) (w.heap.size+1) (some ⟨w.heap.size,0,none⟩) (w32 [lo,hi]) :=
  (BG.new_ w (w32 [lo,hi]) 126).cells_ (by omega)
 have C0:=ko c0
 clear hval c0
 go_enter func160,ntmps160
 go_wp2_with fail
 go_at_call 161
 refine (Eq (some ⟨w.heap.size,0,none⟩) [lo,hi] 2 (w.heap.size+1) _ C0.out (by simp) (by simp)).mono ?_
 rintro e w3 ⟨rfl,rfl⟩
 go_wp2_with fail
 go_ret
 have hcan:=Cd (Adf lob hib)
 rw [HV.out] at hcan
 refine ⟨_,rfl,⟨some ⟨w.heap.size,0,none⟩,2,by rw [hcan];rfl,by simp,?_,?_⟩,al_ _ _⟩
 ·rw [←hcan,BN]
  exact Df _ _
 ·rw [←hcan]
  exact (C0.out.takeW _).more (by simp)
theorem Wv (h2:tmps.getD 2 undef=.pointer (some ⟨b,0,none⟩)) (hB:BG w b [v0,v1,v2] 43) :
  (results Tryz.f68 tmps).run prog w=.ok (.agg #[v0,v1,v2]) w:=by
 have k0:=hB.cell 0
 have k1:=hB.cell 1
 have k2:=hB.cell 2
 simp at k0 k1 k2
 simp at h2
 simp [results,results68,go_sem,h2,k0,k1,k2]
theorem AgH (h:p:=by
 exact ((((D3'.out.set_ (by omega) 0 _).set_ (by omega) 1 _).set_ (by omega) 2 _).low (by omega)).more (by simp)):p:=h
theorem Ww (n:Int) (h1 : -9223372036854775808≤n) (h2:n<9223372036854775808) (w:World) (ht:Al w) :
  Calls prog 68 #[.int .i64 n] w fun e w'=>∃ v',e=.returned v'∧DyR w' w.heap.size w'.heap.size v' n 0∧Below w.heap.size w w':=by
 by_cases h:n<0
 ·as_aux_lemma =>
  obtain ⟨u,hu⟩:∃ u:Nat,-n=(u:Int):=⟨(-n).toNat,by omega⟩
  obtain ⟨vv,hvv⟩:∃ vv:Nat,n+18446744073709551616=(vv:Int):=⟨(n+18446744073709551616).toNat,by omega⟩
  have hu1:IntKind.u64.wrap n=(vv:Int):=by rw [fj];omega
  have hu2:IntKind.u64.wrap (-(vv:Int))=(u:Int):=by rw [fj];omega
  have hsg:sg true u=n:=by unfold sg;simp;omega
  have hub:u<18446744073709551616:=by omega
  have hcl:(Aa u).length≤2:=Az (by omega)
  have HSG:=ko hsg
  have HT:=ko ht
  clear hsg ht hvv hu
  have b0:Below w.heap.size w (w.alloc (.cells #[.bool false,.slice none 0 0,.int .i64 0] 43)):=Aq (ab _ _) _
  have r0:=BG.new_ w [.bool false,.slice none 0 0,.int .i64 0] 43
  go_enter func68,ntmps68
  go_wp2_with fail
  go_at_call 160
  refine (Np u _ hub).mono ?_
  rintro e w1 ⟨v1,rfl,Y,hb1⟩
  have r1:=r0.call hb1
  have b1:=b0.trans (hb1.mono (by simp))
  have hw1:=r1.lt
  have HT1:=HT.out.below b1 HT.out.1
  obtain ⟨A1,L1,c1,rfl⟩:=Y.form
  have Y':=ko Y
  clear hb1 r0 b0 Y
  go_wp2_with fail
  go_at_call 71
  refine (Dk (d:=0) Y'.out (aa _) (by omega) (by omega) HT1).mono ?_
  rintro e w3 ⟨v',rfl,D3,hb3⟩
  rw [HSG.out] at D3
  have D3:DyR w3 (w.heap.size+1) w3.heap.size v' n 0:=D3.low (by omega)
  have u1:=r1.call hb3
  have bv:=b1.trans (hb3.mono (by have:=b1.size;omega))
  obtain ⟨nb3,A3,L3,c3,rfl,_⟩:=D3.form
  have D3':=ko D3
  clear D3 hb3 r1 b1
  have q0:w3.cell? ⟨w.heap.size,0,none⟩=some (.bool false):=u1.cell 0
  have q1:w3.cell? ⟨w.heap.size,1,none⟩=some (.slice none 0 0):=u1.cell 1
  have q2:w3.cell? ⟨w.heap.size,2,none⟩=some (.int .i64 0):=u1.cell 2
  have qf:=u1.free
  have hu1:=u1.lt
  go_wp2_with fail
  refine bodyPost_ret (Wv rfl (((u1.set_ 0 _).set_ 1 _).set_ 2 _)) rfl ⟨_,rfl,?_,((bv.setCell (by simp) _).setCell (by simp) _).setCell (by simp) _⟩
  exact AgH
 ·as_aux_lemma =>
  obtain ⟨u,rfl⟩:∃ u:Nat,n=(u:Int):=⟨n.toNat,by omega⟩
  have hsg:sg false u=(u:Int):=by unfold sg;simp
  have hub:u<18446744073709551616:=by omega
  have hcl:(Aa u).length≤2:=Az (by omega)
  have HSG:=ko hsg
  have HT:=ko ht
  clear hsg ht
  have b0:Below w.heap.size w (w.alloc (.cells #[.bool false,.slice none 0 0,.int .i64 0] 43)):=Aq (ab _ _) _
  have r0:=BG.new_ w [.bool false,.slice none 0 0,.int .i64 0] 43
  go_enter func68,ntmps68
  go_wp2_with fail
  go_at_call 160
  refine (Np u _ hub).mono ?_
  rintro e w1 ⟨v1,rfl,Y,hb1⟩
  have r1:=r0.call hb1
  have b1:=b0.trans (hb1.mono (by simp))
  have hw1:=r1.lt
  have HT1:=HT.out.below b1 HT.out.1
  obtain ⟨A1,L1,c1,rfl⟩:=Y.form
  have Y':=ko Y
  clear hb1 r0 b0 Y
  go_wp2_with fail
  go_at_call 71
  refine (Dk (d:=0) Y'.out (aa _) (by omega) (by omega) HT1).mono ?_
  rintro e w3 ⟨v',rfl,D3,hb3⟩
  rw [HSG.out] at D3
  have D3:DyR w3 (w.heap.size+1) w3.heap.size v' (u:Int) 0:=D3.low (by omega)
  have u1:=r1.call hb3
  have bv:=b1.trans (hb3.mono (by have:=b1.size;omega))
  obtain ⟨nb3,A3,L3,c3,rfl,_⟩:=D3.form
  have D3':=ko D3
  clear D3 hb3 r1 b1
  have q0:w3.cell? ⟨w.heap.size,0,none⟩=some (.bool false):=u1.cell 0
  have q1:w3.cell? ⟨w.heap.size,1,none⟩=some (.slice none 0 0):=u1.cell 1
  have q2:w3.cell? ⟨w.heap.size,2,none⟩=some (.int .i64 0):=u1.cell 2
  have qf:=u1.free
  have hu1:=u1.lt
  go_wp2_with fail
  refine bodyPost_ret (Wv rfl (((u1.set_ 0 _).set_ 1 _).set_ 2 _)) rfl ⟨_,rfl,?_,((bv.setCell (by simp) _).setCell (by simp) _).setCell (by simp) _⟩
  exact AgH
theorem UD (h2:tmps.getD 4 undef=.pointer (some ⟨b,0,none⟩)) (hB:BG w b [v0,v1,v2] 43) :
  (results Tryz.f21 tmps).run prog w=.ok (.agg #[v0,v1,v2]) w:=by
 have k0:=hB.cell 0
 have k1:=hB.cell 1
 have k2:=hB.cell 2
 simp at k0 k1 k2
 simp at h2
 simp [results,results21,go_sem,h2,k0,k1,k2]
theorem ze1f (h:p:=by
 obtain ⟨nb3,A3,L3,c3,rfl,_⟩:=D3.form
 have D3':=ko D3
 clear D3 hb3 r1 b1
 have q0:w3.cell? ⟨w.heap.size+1,0,none⟩=some (.bool false):=u1.cell 0
 have q1:w3.cell? ⟨w.heap.size+1,1,none⟩=some (.slice none 0 0):=u1.cell 1
 have q2:w3.cell? ⟨w.heap.size+1,2,none⟩=some (.int .i64 0):=u1.cell 2
 have qf:=u1.free
 have hu1:=u1.lt
 go_wp2_with fail
 refine bodyPost_ret (UD rfl (((u1.set_ 0 _).set_ 1 _).set_ 2 _)) rfl ⟨_,rfl,?_,((bv.setCell (by simp) _).setCell (by simp) _).setCell (by simp) _⟩
 exact ((((D3'.out.set_ (by omega) 0 _).set_ (by omega) 1 _).set_ (by omega) 2 _).low (by omega)).more (by simp)):p:=h
theorem Nq {n:Int} (D:DyR w lo m v x d) (hm:m≤w.heap.size) (hl:(Aa x.natAbs).length≤50000) (hd:(d:Int) - max (-65536) (min n 65536)≤65536) (ht:Al w) :
    Calls prog 21 #[v,.int .i64 n] w fun e w'=>∃ v',e=.returned v'∧DyR w' w.heap.size w'.heap.size v' (Ad x d n).1 (Ad x d n).2∧Below w.heap.size w w':=by
  obtain ⟨nn,hnn⟩:∃ nn:Int,max (-65536) (min n 65536)=nn:=⟨_,rfl⟩
  have hb1 : -65536≤nn:=by omega
  have hb2:nn≤65536:=by omega
  rw [hnn] at hd
  have hdd:=D.bound.1
  by_cases hneg:(d:Int) - nn<0
  · as_aux_lemma =>
    obtain ⟨p,hp⟩:∃ p:Nat,-((d:Int) - nn)=(p:Int):=⟨(nn - d).toNat,by omega⟩
    have HV := ko (show Ad x d n = (x * 2 ^ p, 0) by
      unfold Ad
      rw [hnn,if_neg (by omega)]
      rw [Wu,if_neg (by omega)]
      congr 3
      omega)
    have hp6:p≤1000000:=by omega
    have hlen:(Aa (x.natAbs*2 ^ p)).length≤100000:=by
      have:=Bc x.natAbs p
      omega
    have hpn:(d:Int) - nn<0:=by omega
    obtain ⟨nb,A,L,c,rfl,HD⟩:=D.form
    have hd6:=D.bound.1
    have D':=ko D
    have HT:=ko ht
    have HN:=ko hnn
    have b0:Below w.heap.size w ((w.alloc (.cells #[.bool nb,.slice A L c,.int .i64 (d:Int)] 43)).alloc (.cells #[.bool false,.slice none 0 0,.int .i64 0] 43)):=Aq (Aq (ab _ _) _) _
    have r0:=BG.new_ (w.alloc (.cells #[.bool nb,.slice A L c,.int .i64 (d:Int)] 43)) [.bool false,.slice none 0 0,.int .i64 0] 43
    rw [show (w.alloc (.cells #[.bool nb,.slice A L c,.int .i64 (d:Int)] 43)).heap.size=w.heap.size+1 by simp] at r0
    clear D ht
    go_enter func21,ntmps21
    go_wp2_with fail
    go_at_call 69
    refine (EL (D'.out.below b0 hm) (by simp;omega) (by omega)).mono ?_
    rintro e w1 ⟨nb',A',L',c',he,rfl,hb1⟩
    cases he
    have r1:=r0.call hb1
    have b1:=b0.trans (hb1.mono (by simp;omega))
    have hw1:=r1.lt
    have HT1:=HT.out.below b1 HT.out.1
    have X1:=(D'.out.below b1 hm).words
    clear hb1 r0 b0
    go_wp2_with fail
    go_at_call 70
    refine (RF X1 (by omega) (by omega) hp6).mono ?_
    rintro e w2 ⟨v2,rfl,Y,hb2⟩
    have r2:=r1.call hb2
    have b2:=b1.trans (hb2.mono (by omega))
    have HT2:=HT1.call hb2
    obtain ⟨A2,L2,c2,rfl⟩:=Y.form
    have hw2:=r2.lt
    clear hb2 r1 b1 HT1 X1
    go_wp2_with fail
    go_at_call 71
    refine (Dk (d:=0) Y (aa _) hlen (by omega) HT2).mono ?_
    rintro e w3 ⟨v',rfl,D3,hb3⟩
    rw [show nf (sg nb (x.natAbs*2 ^ p)) 0=Ad x d n by rw [HD.out.1,Te,HV.out];rfl] at D3
    have r1:=r2
    have b1:=b2
    clear r2 b2
    have u1:=r1.call hb3
    have bv:=b1.trans (hb3.mono (by have:=b1.size;omega))
    exact ze1f
  · as_aux_lemma =>
    obtain ⟨p,hp⟩:∃ p:Nat,(d:Int) - nn=(p:Int):=⟨(d - nn).toNat,by omega⟩
    have HV := ko (show Ad x d n = nf x p by
      unfold Ad
      rw [hnn]
      by_cases h0:nn<0
      · rw [if_pos h0]
        congr 1
        omega
      · rw [if_neg h0,Wu,if_pos (by omega)]
        congr 1
        omega)
    have hp6:p≤65536:=by omega
    have hpn:¬ (d:Int) - nn<0:=by omega
    obtain ⟨nb,A,L,c,rfl,HD⟩:=D.form
    have hd6:=D.bound.1
    have D':=ko D
    have HT:=ko ht
    have HN:=ko hnn
    have b0:Below w.heap.size w ((w.alloc (.cells #[.bool nb,.slice A L c,.int .i64 (d:Int)] 43)).alloc (.cells #[.bool false,.slice none 0 0,.int .i64 0] 43)):=Aq (Aq (ab _ _) _) _
    have r0:=BG.new_ (w.alloc (.cells #[.bool nb,.slice A L c,.int .i64 (d:Int)] 43)) [.bool false,.slice none 0 0,.int .i64 0] 43
    rw [show (w.alloc (.cells #[.bool nb,.slice A L c,.int .i64 (d:Int)] 43)).heap.size=w.heap.size+1 by simp] at r0
    clear D ht
    go_enter func21,ntmps21
    go_wp2_with fail
    go_at_call 69
    refine (EL (D'.out.below b0 hm) (by simp;omega) (by omega)).mono ?_
    rintro e w1 ⟨nb',A',L',c',he,rfl,hb1⟩
    cases he
    have r1:=r0.call hb1
    have b1:=b0.trans (hb1.mono (by simp;omega))
    have hw1:=r1.lt
    have HT1:=HT.out.below b1 HT.out.1
    have X1:=(D'.out.below b1 hm).words
    clear hb1 r0 b0
    go_wp2_with fail
    go_at_call 71
    refine (Dk (d:=p) X1 (by omega) (by omega) hp6 HT1).mono ?_
    rintro e w3 ⟨v',rfl,D3,hb3⟩
    rw [show nf (sg nb x.natAbs) p=Ad x d n by rw [HD.out.1,RC,HV.out]] at D3
    have u1:=r1.call hb3
    have bv:=b1.trans (hb3.mono (by have:=b1.size;omega))
    exact ze1f
theorem PO (x y c:Nat) (w:World) (hx:x<4294967296) (hy:y<4294967296) (hc:c≤1) :
  Calls prog 164 #[.int .u32 (x:Int),.int .u32 (y:Int),.int .u32 (c:Int)] w fun e w'=>e=.returned (.tuple #[.int .u32 (((x+y+c) % 4294967296:Nat):Int),.int .u32 (((x+y+c) / 4294967296:Nat):Int)])∧w=w':=by
 have h1:(x:Int) % 18446744073709551616=(x:Int):=by omega
 have h2:(y:Int) % 18446744073709551616=(y:Int):=by omega
 have h3:(c:Int) % 18446744073709551616=(c:Int):=by omega
 obtain ⟨s,hs⟩:∃ s:Nat,(x:Int)+(y:Int)+(c:Int)=(s:Int):=⟨x+y+c,by omega⟩
 have hs2:x+y+c=s:=by omega
 have hsb:s<8589934592:=by omega
 rw [hs2]
 go_enter func164,ntmps164
 go_wp2_with fail
 refine bodyPost_ret (v:=.tuple #[.int .u32 ((s % 4294967296:Nat):Int),.int .u32 ((s / 4294967296:Nat):Int)]) ?_ rfl ⟨rfl,rfl⟩
 simp [results,results164,go_sem]
def AkD (w:World) (a b:List Nat) (g L:Nat) (cv i:Value) (wr:World):Prop :=
 ∃ (k:Nat) (os:List Nat) (cy:Nat),k≤L∧i=.int .i64 (k:Int)∧cv=.int .u32 (cy:Int)∧CQ wr w.heap.size (.slice (some ⟨g,0,none⟩) L L) (os++List.replicate (L - k) 0)∧os.length=k∧An os∧cy≤1 ∧
  Ar os+4294967296 ^ k*cy=Ar (a.take k)+Ar (b.take k)∧Below w.heap.size w wr
theorem AgI {b:List Nat} (ha:An a) (hb:An b) (hL:L=max a.length b.length+1) (hol:os.length=L) (hv:Ar os+4294967296 ^ L*cy=Ar (a.take L)+Ar (b.take L)):Ar os=Ar a+Ar b:=by
 rw [ap (by omega),ap (by omega)] at hv
 have h1:=Br ha
 have h2:=Br hb
 have p1:4294967296 ^ a.length≤4294967296 ^ (max a.length b.length):=ao (by decide) (by omega)
 have p2:4294967296 ^ b.length≤4294967296 ^ (max a.length b.length):=ao (by decide) (by omega)
 have p3:4294967296 ^ L=4294967296*4294967296 ^ (max a.length b.length):=by rw [hL,az,aq]
 rcases cw cy with h|h
 ·rw [h] at hv;omega
 ·have:4294967296 ^ L*1≤4294967296 ^ L*cy:=fw _ h
  omega
theorem ZI (A B:Option Addr) (a b:List Nat) (c1 c2 m:Nat) (w:World) (hm:m≤w.heap.size) (h1:Aj w m A (w32 a)) (h2:Aj w m B (w32 b)) (ha:An a) (hb:An b) (l1:a.length≤90000) (l2:b.length≤90000) :
  Calls prog 73 #[.slice A a.length c1,.slice B b.length c2] w fun e w' =>
   ∃ G g,e=.returned (.slice G (Aa (Ar a+Ar b)).length g)∧(G=none→g=0)∧(Aa (Ar a+Ar b)).length≤g∧Aj w' w'.heap.size G (w32 (Aa (Ar a+Ar b)))∧Below w.heap.size w w':=by
 have H1:=ko h1
 have H2:=ko h2
 have HA:=ko ha
 have HB:=ko hb
 obtain ⟨L,hL⟩:∃ L,L=max a.length b.length+1:=⟨_,rfl⟩
 have hLi:max (a.length:Int) (b.length:Int)+1=(L:Int):=by omega
 have hL6:L≤100000:=by omega
 have HL:=ko hL
 obtain ⟨i0,hi,hz0,hz1,hz2⟩:=info_parts Ot
 clear h1 h2 ha hb hL
 go_enter func73,ntmps73
 go_wp2_with (with_reducible refine wpList_make_full _ rfl (.tmp 13) (.tmp 13) 112 rfl w.heap.size 126 i0 (.int .u32 0) 1 Fj hi hz0 hz1 .i64 .i64 _ _ L rfl rfl rfl rfl (by rw [hz2];omega) (by unfold maxLen;omega) (aa _) ?_;intro w2 hown hg)
 have hst:=(ab w.heap.size w).grown hg (aa _) (fun k h=>by simp at h)
 have hown2:=Wp hown
 obtain ⟨g,hg1⟩:∃ g,g=w.heap.size:=⟨_,rfl⟩
 have hgw:=ko hg1
 rw [←hg1]
 rw [show CQ w2 w.heap.size (.slice (some ⟨w.heap.size,0,none⟩) L L) (List.replicate L 0)=CQ w2 w.heap.size (.slice (some ⟨g,0,none⟩) L L) (List.replicate L 0) by rw [hg1]] at hown2
 clear hown hg hi hz0 hz1 hz2 hg1
 go_loopw [6,17] (fun cv i wr=>AkD w a b g L cv i wr) (fun _ i _=>L - (intOf i).toNat)
 case atStart=>exact ⟨0,[],0,ad _,rfl,rfl,by simpa using hown2,rfl,by simp [An],by omega,by simp [Ar],hst⟩
 case round =>
  obtain ⟨k,os,cy,hk,rfl,rfl,hown,hol,hok,hcy,hv,hb⟩:=hrel
  have HO:=ko hown
  have HOL:=ko hol
  have HOK:=ko hok
  have HV:=ko hv
  have hsz:=hb.size
  have hlen:=ko (show L=(os++List.replicate (L - k) 0).length by simp;omega)
  clear hown hol hok hv hown2 hst
  by_cases hlt:k<L
  ·obtain ⟨x,hx⟩:∃ x,x=a[k]?.getD 0:=⟨_,rfl⟩
   obtain ⟨y,hy⟩:∃ y,y=b[k]?.getD 0:=⟨_,rfl⟩
   have bx:x<4294967296:=by
    rw [hx]
    by_cases h:k<a.length
    ·rw [gE h];exact HA.out _ (fe h)
    ·rw [dg (by omega)];decide
   have by':y<4294967296:=by
    rw [hy]
    by_cases h:k<b.length
    ·rw [gE h];exact HB.out _ (fe h)
    ·rw [dg (by omega)];decide
   have hat1:=Tf A a c1 k m wr (H1.out.below hb hm) (by omega) (by omega)
   have hat2:=Tf B b c2 k m wr (H2.out.below hb hm) (by omega) (by omega)
   rw [←hx] at hat1
   rw [←hy] at hat2
   have hadd:=PO x y cy wr bx by' hcy
   obtain ⟨z,hz⟩:∃ z,z=(x+y+cy) % 4294967296:=⟨_,rfl⟩
   obtain ⟨c',hc'⟩:∃ c',c'=(x+y+cy) / 4294967296:=⟨_,rfl⟩
   rw [←hz,←hc'] at hadd
   have HZ:=ko (show z+4294967296*c'=cy+x+y by omega)
   have HZB:=ko (show z<4294967296 by omega)
   have HCB:=ko (show c'≤1 by omega)
   have HAT1:=ko hat1
   have HAT2:=ko hat2
   have HADD:=ko hadd
   have HX:=ko hx.symm
   have HY:=ko hy.symm
   have hkl':(k:Int)<(L:Int):=by omega
   have f1:wr.cell? ⟨g,k,none⟩=some (.int .u32 0):=by
    have:=HO.out.cellA (j:=k) (z:=0) (by rw [ef (by rw [HOL.out];omega),HOL.out,du];rw [ja];simp;omega)
    simpa using this
   have f2:∀ j,wr.frozen? ⟨g,j,none⟩=false:=fun j=>HO.out.freeA hlen.out j
   clear hx hy hz hc' hat1 hat2 hadd
   go_wp2_with fail
   go_at_call 163
   refine HAT1.out.mono ?_
   rintro e wq ⟨rfl,rfl⟩
   go_wp2_with fail
   go_at_call 163
   refine HAT2.out.mono ?_
   rintro e wq ⟨rfl,rfl⟩
   go_wp2_with fail
   go_at_call 164
   refine HADD.out.mono ?_
   rintro e wq ⟨rfl,rfl⟩
   go_wp2_with fail
   refine ⟨⟨k+1,os++[z],c',by omega,by go_num,rfl,?_,by rw [am,HOL.out];rfl,BM HOK.out HZB.out,HCB.out,Ry HOL.out HX.out HY.out HV.out HZ.out,hb.setCell (by have:=hgw.out;simp;omega) _⟩,by simp [intOf];omega⟩
   have h5:=HO.out.put hlen.out k z
   rw [Wq HOL.out hlt] at h5
   exact h5
  ·have hkL:k=L:=by omega
   have hle:¬ (k:Int)<(L:Int):=by omega
   have hO:=HO.out
   rw [hkL,du,List.replicate_zero,bd] at hO
   have hol:=HOL.out.trans hkL
   have hL6':os.length≤1000000:=by omega
   have HWV:=ko (AgI HA.out HB.out HL.out hol (by have:=HV.out;rw [hkL] at this;exact this))
   have HGC:=ko hO.cap_.2.2.2
   have hcall:=Eq (some ⟨g,0,none⟩) os os.length wr.heap.size wr HGC.out (aa _) hL6'
   exact ze4f
def AkE (w:World) (a:List Nat) (u i:Value) (wr:World):Prop:=∃ k:Nat,k≤a.length∧i=.int .i64 ((k:Int) - 1)∧u=.int .u64 (Ar (a.drop k):Int)∧w=wr
theorem Wx (A:Option Addr) (a:List Nat) (c m:Nat) (w:World) (h:Aj w m A (w32 a)) (ha:An a) (hl:a.length≤2) :
  Calls prog 249 #[.slice A a.length c] w fun e w'=>e=.returned (.int .u64 (Ar a:Int))∧w=w':=by
 have H:=ko h
 have HA:=ko ha
 clear h ha
 go_enter func249,ntmps249
 go_wp2_with fail
 go_loopw [3,4] (fun u i wr=>AkE w a u i wr) (fun _ i _=>(intOf i+1).toNat)
 case atStart=>exact ⟨a.length,aa _,by go_num,by simp [Ar],rfl⟩
 case round =>
  obtain ⟨k,hk,rfl,rfl,rfl⟩:=hrel
  by_cases hk0:k=0
  ·subst hk0
   have e:((0:Nat):Int) - 1 = -1:=rfl
   rw [e,gr]
   go_wp2_with fail
   go_ret
   exact ⟨rfl,rfl⟩
  ·obtain ⟨j,rfl⟩:∃ j,k=j+1:=⟨k - 1,by omega⟩
   have e:((j+1:Nat):Int) - 1=(j:Int):=by omega
   rw [e]
   have hj:j<a.length:=by omega
   obtain ⟨b1,o1,x,rfl,q1,_,hx,g1⟩:=H.out.w32_ hj
   have bx:=HA.out x (gM hx)
   obtain ⟨mm,hm⟩:∃ mm,mm=Ar (a.drop (j+1)):=⟨_,rfl⟩
   have bm:mm<4294967296:=by
    have h1:=Br (ws:=a.drop (j+1)) (fun z hz=>HA.out z (List.mem_of_mem_drop hz))
    have h2:(a.drop (j+1)).length≤1:=by simp;omega
    have h3:4294967296 ^ (a.drop (j+1)).length≤4294967296 ^ 1:=ao (by decide) h2
    omega
   have hd:Ar (a.drop j)=x+4294967296*mm:=by
    rw [hm,cn hj]
    have:a[j]=x:=by rw [gE hj] at hx;simpa using hx
    rw [this]
    rfl
   rw [←hm]
   have HD:=ko hd
   have w3:IntKind.u64.wrap ((mm:Int)*4294967296)=(mm:Int)*4294967296:=by rw [fj];omega
   obtain ⟨s,hs⟩:∃ s,s=x+4294967296*mm:=⟨_,rfl⟩
   have hor:bits .or .u64 ((mm:Int)*4294967296) (x:Int)=(s:Int):=by rw [hs];exact Agz bm bx
   have HS:=ko hs
   have hji:(j:Int)<(a.length:Int):=by omega
   clear hx hm hd hs hk0 e
   go_wp2_with fail
   exact ⟨⟨j,by omega,by go_num,by rw [HD.out,←HS.out],rfl⟩,by simp [intOf]⟩
def UE (x:Int):Bool:=decide (-9223372036854775808≤x∧x<9223372036854775808)
def AgJ (x:Int):Int:=if UE x=true then x else 0
theorem Th (h:¬ (-9223372036854775808≤x∧x<9223372036854775808)):UE x=false∧AgJ x=0:=by
 have h1:UE x=false:=decide_eq_false h
 exact ⟨h1,by unfold AgJ;rw [h1];rfl⟩
theorem LF (h : -9223372036854775808≤x∧x<9223372036854775808):UE x=true∧AgJ x=x:=by
 have h1:UE x=true:=decide_eq_true h
 exact ⟨h1,by unfold AgJ;rw [h1];rfl⟩
theorem AkF (h:p:=by
 go_wp2_with fail
 exact bodyPost_ret (v:=.tuple #[.int .i64 0,.bool false]) (by simp [results,results210,go_sem]) rfl ⟨by rw [HV.out.1,HV.out.2],HB.out⟩):p:=h
theorem ZJ (D:DyR w lo m v x d) (hd0:d=0) (hm:m≤w.heap.size) (hl:(Aa x.natAbs).length≤50000) :
  Calls prog 210 #[v] w fun e w'=>e=.returned (.tuple #[.int .i64 (AgJ x),.bool (UE x)])∧Below w.heap.size w w':=by
 obtain ⟨nb,A,L,c,rfl,HD⟩:=D.form
 have D':=ko D
 have b0:Below w.heap.size w (w.alloc (.cells #[.bool nb,.slice A L c,.int .i64 (d:Int)] 43)):=Aq (ab _ _) _
 have hL:L=(Aa x.natAbs).length:=HD.out.2.1
 have HNB:=ko HD.out.1
 have HL:=ko hL
 have hdi:decide ((0:Int)<(d:Int))=false:=decide_eq_false (by omega)
 have hdz:¬ (0:Int)<(d:Int):=by omega
 clear D hd0 hL
 go_enter func210,ntmps210
 go_wp2_with fail
 go_at_call 69
 refine (EL (D'.out.below b0 hm) (by simp;omega) (by omega)).mono ?_
 rintro e w1 ⟨nb',A',L',c',he,rfl,hb1⟩
 cases he
 have hL:=HL.out
 have b1:=b0.trans (hb1.mono (by simp))
 have X:=HD.out.2.2.2.2.1.below b1 hm
 obtain ⟨n,hn⟩:∃ n,n=x.natAbs:=⟨_,rfl⟩
 rw [←hn] at hL HL hl X
 have HX:=ko X
 have HN:=ko hn
 have HB:=ko b1
 clear X hn HD D' b0 hb1 b1
 by_cases hbig:2<L
 ·have hx:¬ (-9223372036854775808≤x∧x<9223372036854775808):=by
   intro h
   have:(Aa n).length≤2:=Az (by have:=HN.out;omega)
   omega
  have HV:=ko (Th hx)
  have hbi:(2:Int)<(L:Int):=by omega
  clear hx hL
  exact AkF
 ·have hbi:decide ((2:Int)<(L:Int))=false:=decide_eq_false (by omega)
  have hpu:=Wx A (Aa n) c m w1 HX.out (Au n) (by omega)
  rw [←hL,Ao] at hpu
  have hn64:n<18446744073709551616:=by
   have h1:=Br (Au n)
   rw [Ao] at h1
   have h3:4294967296 ^ (Aa n).length≤4294967296 ^ 2:=ao (by decide) (by omega)
   omega
  have HPU:=ko hpu
  have hbn:¬ (2:Int)<(L:Int):=by omega
  have hbl:(L:Int)≤2:=by omega
  clear hpu hL hbig
  go_wp2_with fail
  go_at_call 249
  refine HPU.out.mono ?_
  rintro e wq ⟨rfl,rfl⟩
  cases nb with
  | true =>
   have hx:x<0:=by simpa using HNB.out.symm
   by_cases h63:n≤9223372036854775808
   ·have HV:=ko (LF (x:=x) (by have:=HN.out;omega))
    have hd:decide ((n:Int)≤9223372036854775808)=true:=decide_eq_true (by omega)
    have hxe:x = -(n:Int):=by have:=HN.out;omega
    have hmp:(1:Int)≤(n:Int):=by omega
    have HXE:=ko hxe
    clear hx hxe
    go_wp2_with fail
    exact bodyPost_ret (v:=.tuple #[.int .i64 x,.bool true]) (by simp [results,results210,go_sem];rw [HXE.out];first|(rw [fj];unfold wrap64;omega)|(show IntKind.i64.wrap _=_;rw [fj,gq];omega)) rfl ⟨by rw [HV.out.1,HV.out.2],HB.out⟩
   ·have HV:=ko (Th (x:=x) (by have:=HN.out;omega))
    have hd:decide ((n:Int)≤9223372036854775808)=false:=decide_eq_false (by omega)
    clear hx
    exact AkF
  | false =>
   have hx:0≤x:=by simpa using HNB.out.symm
   by_cases h63:n<9223372036854775808
   ·have HV:=ko (LF (x:=x) (by have:=HN.out;omega))
    have hd:decide ((n:Int)<9223372036854775808)=true:=decide_eq_true (by omega)
    have hxe:x=(n:Int):=by have:=HN.out;omega
    have HXE:=ko hxe
    clear hx hxe
    go_wp2_with fail
    exact bodyPost_ret (v:=.tuple #[.int .i64 x,.bool true]) (by simp [results,results210,go_sem];rw [HXE.out]) rfl ⟨by rw [HV.out.1,HV.out.2],HB.out⟩
   ·have HV:=ko (Th (x:=x) (by have:=HN.out;omega))
    have hd:decide ((n:Int)<9223372036854775808)=false:=decide_eq_false (by omega)
    clear hx
    exact AkF
theorem AgK {a:Nat} (h:WdR w m v a) (h2:WdR w m v2 b) (hm:m≤w.heap.size) (l1:(Aa a).length≤90000) (l2:(Aa b).length≤90000) :
  Calls prog 73 #[v,v2] w fun e w'=>∃ v',e=.returned v'∧WdR w' w'.heap.size v' (a+b)∧Below w.heap.size w w':=by
 obtain ⟨A,c,rfl,_,_,h3⟩:=h
 obtain ⟨B,c',rfl,_,_,h4⟩:=h2
 have hc:=ZI A B (Aa a) (Aa b) c c' m w hm h3 h4 (Au a) (Au b) l1 l2
 rw [Ao,Ao] at hc
 refine hc.mono ?_
 rintro e w' ⟨G,g,rfl,hG,hg,hC,hb⟩
 exact ⟨_,rfl,⟨G,g,rfl,hG,hg,hC⟩,hb⟩
theorem AgL (hx:x % 2=1) (hk:0<k):Nn x.natAbs k=true:=by
 unfold Nn
 refine decide_eq_true ?_
 intro h0
 obtain ⟨j,rfl⟩:∃ j,k=j+1:=⟨k - 1,by omega⟩
 have h1:2 ∣ x.natAbs:=Nat.dvd_trans ⟨2 ^ j,by rw [az,aq]⟩ (Nat.dvd_of_mod_eq_zero h0)
 omega
theorem FO:Aa 1=[1]:=by rw [Dj (by decide),show 1 / 4294967296=0 by decide,Ax]
theorem GL:(Aa 1).length=1:=by rw [FO];rfl
theorem Wy (w:World):WdR (w.alloc (.cells #[.int .u32 1] 126)) (w.heap.size+1) (.slice (some ⟨w.heap.size,0,none⟩) 1 1) 1 :=
 ⟨some ⟨w.heap.size,0,none⟩,1,by rw [FO];rfl,by simp,by rw [FO];decide,by
  rw [FO]
  exact (BG.new_ w [.int .u32 1] 126).cells_ (Nat.lt_succ_self _)⟩
theorem Hp {v5:Value} (h2:tmps.getD 4 undef=.pointer (some ⟨b,0,none⟩)) (h5:tmps.getD 5 undef=v5) (hB:BG w b [v0,v1,v2] 43) :
  (results Tryz.f22 tmps).run prog w=.ok (.tuple #[.agg #[v0,v1,v2],v5]) w:=by
 have k0:=hB.cell 0
 have k1:=hB.cell 1
 have k2:=hB.cell 2
 simp at k0 k1 k2
 simp at h2 h5
 simp [results,results22,go_sem,h2,h5,k0,k1,k2]
theorem Nr (D:DyR w lo m v x d) (hm:m≤w.heap.size) (hl:(Aa x.natAbs).length≤50000) (hden:den≤65536) (ht:Al w) :
  Calls prog 22 #[v,.int .i64 (den:Int)] w fun e w'=>∃ v',e=.returned (.tuple #[v',.nilIface])∧DyR w' w.heap.size w'.heap.size v' (Bz x d den).1 (Bz x d den).2∧Below w.heap.size w w':=by
 have n1:decide ((den:Int)<0)=false:=decide_eq_false (by omega)
 have n2:decide ((65536:Int)<(den:Int))=false:=decide_eq_false (by omega)
 have n3:¬ (den:Int)<0:=by omega
 have n4:¬ (65536:Int)<(den:Int):=by omega
 have hdr:=D.bound
 have hd6:=hdr.1
 have HDR:=ko hdr.2
 clear hdr
 by_cases hle:d≤den
 ·as_aux_lemma =>
  have HV:=ko (show Bz x d den=(x,d) from if_pos hle)
  have n5:(d:Int)≤(den:Int):=by omega
  obtain ⟨nb,A,L,c,rfl,HD⟩:=D.form
  have D':=ko D
  have HT:=ko ht
  clear D ht
  have b0:Below w.heap.size w ((w.alloc (.cells #[.bool nb,.slice A L c,.int .i64 (d:Int)] 43)).alloc (.cells #[.bool false,.slice none 0 0,.int .i64 0] 43)):=Aq (Aq (ab _ _) _) _
  have r0:=BG.new_ (w.alloc (.cells #[.bool nb,.slice A L c,.int .i64 (d:Int)] 43)) [.bool false,.slice none 0 0,.int .i64 0] 43
  rw [show (w.alloc (.cells #[.bool nb,.slice A L c,.int .i64 (d:Int)] 43)).heap.size=w.heap.size+1 by simp] at r0
  go_enter func22,ntmps22
  go_wp2_with fail
  go_at_call 69
  refine (EL (D'.out.below b0 hm) (by simp;omega) (by omega)).mono ?_
  rintro e w1 ⟨nb',A',L',c',he,rfl,hb1⟩
  cases he
  have r1:=r0.call hb1
  have b1:=b0.trans (hb1.mono (by simp;omega))
  have hw1:=r1.lt
  have HT1:=HT.out.below b1 HT.out.1
  have X1:=(D'.out.below b1 hm).words
  clear hb1 r0 b0
  go_wp2_with fail
  go_at_call 71
  refine (Dk (d:=d) X1 (by omega) (by omega) hd6 HT1).mono ?_
  rintro e w3 ⟨v',rfl,D3,hb3⟩
  rw [HD.out.1,RC,EJ HDR.out,←HV.out] at D3
  have u1:=r1.call hb3
  have bv:=b1.trans (hb3.mono (by have:=b1.size;omega))
  obtain ⟨nb3,A3,L3,c3,rfl,_⟩:=D3.form
  have D3':=ko D3
  clear D3 hb3 r1 b1
  have q0:w3.cell? ⟨w.heap.size+1,0,none⟩=some (.bool false):=u1.cell 0
  have q1:w3.cell? ⟨w.heap.size+1,1,none⟩=some (.slice none 0 0):=u1.cell 1
  have q2:w3.cell? ⟨w.heap.size+1,2,none⟩=some (.int .i64 0):=u1.cell 2
  have qf:=u1.free
  have hu1:=u1.lt
  go_wp2_with fail
  refine bodyPost_ret (Hp rfl rfl (((u1.set_ 0 _).set_ 1 _).set_ 2 _)) rfl ⟨_,rfl,?_,((bv.setCell (by simp) _).setCell (by simp) _).setCell (by simp) _⟩
  exact AgH
 ·as_aux_lemma =>
  have n5:¬ (d:Int)≤(den:Int):=by omega
  obtain ⟨k,hk⟩:∃ k:Nat,k=d - den:=⟨_,rfl⟩
  have HV:=ko (show Bz x d den=nf (x / 2 ^ k) den by rw [hk];exact if_neg hle)
  have n6:(d:Int) - (den:Int)=(k:Int):=by omega
  have hk6:k≤1000000:=by omega
  have HC:=ko (AgL (x:=x) (k:=k) (HDR.out (by omega)) (by omega))
  have hln:(Aa (x.natAbs / 2 ^ k)).length≤50000:=lT (AC (iu _ _)) hl
  have hln1:(Aa (x.natAbs / 2 ^ k+1)).length≤100000:=by
   have h1:=DE (x.natAbs / 2 ^ k) 1
   have h2:=GL
   omega
  clear hk
  obtain ⟨nb,A,L,c,rfl,HD⟩:=D.form
  have D':=ko D
  have HT:=ko ht
  clear D ht
  have b0:Below w.heap.size w ((w.alloc (.cells #[.bool nb,.slice A L c,.int .i64 (d:Int)] 43)).alloc (.cells #[.bool false,.slice none 0 0,.int .i64 0] 43)):=Aq (Aq (ab _ _) _) _
  have r0:=BG.new_ (w.alloc (.cells #[.bool nb,.slice A L c,.int .i64 (d:Int)] 43)) [.bool false,.slice none 0 0,.int .i64 0] 43
  rw [show (w.alloc (.cells #[.bool nb,.slice A L c,.int .i64 (d:Int)] 43)).heap.size=w.heap.size+1 by simp] at r0
  go_enter func22,ntmps22
  go_wp2_with fail
  go_at_call 69
  refine (EL (D'.out.below b0 hm) (by simp;omega) (by omega)).mono ?_
  rintro e w1 ⟨nb',A',L',c',he,rfl,hb1⟩
  cases he
  have r1:=r0.call hb1
  have b1:=b0.trans (hb1.mono (by simp;omega))
  have hw1:=r1.lt
  have HT1:=HT.out.below b1 HT.out.1
  have X1:=(D'.out.below b1 hm).words
  clear hb1 r0 b0
  go_wp2_with fail
  go_at_call 72
  refine (Ov X1 (by omega) (by omega) hk6).mono ?_
  rintro e w2 ⟨v2,rfl,Y,hb2⟩
  have r2:=r1.call hb2
  have b2:=b1.trans (hb2.mono (by have:=b1.size;omega))
  have HT2:=HT1.call hb2
  obtain ⟨A2,L2,c2,rfl⟩:=Y.form
  have hw2:=r2.lt
  clear hb2 r1 b1 HT1
  have hnb:=HD.out.1
  cases nb with
  | false =>
   as_aux_lemma =>
   have hx:0≤x:=by simpa using hnb.symm
   have HX:=ko hx
   clear hnb hx
   go_wp2_with fail
   go_at_call 71
   refine (Dk (d:=den) Y (aa _) (by omega) hden HT2).mono ?_
   rintro e w3 ⟨v',rfl,D3,hb3⟩
   rw [Agy HX.out,←HV.out] at D3
   have u1:=r2.call hb3
   have bv:=b2.trans (hb3.mono (by have:=b2.size;omega))
   obtain ⟨nb3,A3,L3,c3,rfl,_⟩:=D3.form
   have D3':=ko D3
   clear D3 hb3 r2 b2
   have q0:w3.cell? ⟨w.heap.size+1,0,none⟩=some (.bool false):=u1.cell 0
   have q1:w3.cell? ⟨w.heap.size+1,1,none⟩=some (.slice none 0 0):=u1.cell 1
   have q2:w3.cell? ⟨w.heap.size+1,2,none⟩=some (.int .i64 0):=u1.cell 2
   have qf:=u1.free
   have hu1:=u1.lt
   go_wp2_with fail
   refine bodyPost_ret (Hp rfl rfl (((u1.set_ 0 _).set_ 1 _).set_ 2 _)) rfl ⟨_,rfl,?_,((bv.setCell (by simp) _).setCell (by simp) _).setCell (by simp) _⟩
   exact AgH
  | true =>
   as_aux_lemma =>
   have hx:x<0:=by simpa using hnb.symm
   have HX:=ko hx
   clear hnb hx
   have BA:=al_ w2 (.cells #[.int .u32 1] 126)
   have r4:=r2.call BA
   have b4:=b2.trans (BA.mono (by have:=b2.size;omega))
   have HT4:=HT2.call BA
   have Y4:=(Y.below BA (aa _)).more (show w2.heap.size≤w2.heap.size+1 by omega)
   have O4:=Wy w2
   clear BA Y r2 b2 HT2
   go_wp2_with fail
   go_at_call 73
   refine (AgK Y4 O4 (by simp) (by omega) (by rw [GL];decide)).mono ?_
   rintro e w5 ⟨v5,rfl,Z,hb5⟩
   have r5:=r4.call hb5
   have b5:=b4.trans (hb5.mono (by have:=b4.size;omega))
   have HT5:=HT4.call hb5
   obtain ⟨A5,L5,c5,rfl⟩:=Z.form
   have hw5:=r5.lt
   clear hb5 r4 b4 HT4
   go_wp2_with fail
   go_at_call 71
   refine (Dk (d:=den) Z (aa _) (by omega) hden HT5).mono ?_
   rintro e w3 ⟨v',rfl,D3,hb3⟩
   rw [Uz HX.out HC.out,←HV.out] at D3
   have u1:=r5.call hb3
   have bv:=b5.trans (hb3.mono (by have:=b5.size;omega))
   obtain ⟨nb3,A3,L3,c3,rfl,_⟩:=D3.form
   have D3':=ko D3
   clear D3 hb3 r5 b5
   have q0:w3.cell? ⟨w.heap.size+1,0,none⟩=some (.bool false):=u1.cell 0
   have q1:w3.cell? ⟨w.heap.size+1,1,none⟩=some (.slice none 0 0):=u1.cell 1
   have q2:w3.cell? ⟨w.heap.size+1,2,none⟩=some (.int .i64 0):=u1.cell 2
   have qf:=u1.free
   have hu1:=u1.lt
   go_wp2_with fail
   refine bodyPost_ret (Hp rfl rfl (((u1.set_ 0 _).set_ 1 _).set_ 2 _)) rfl ⟨_,rfl,?_,((bv.setCell (by simp) _).setCell (by simp) _).setCell (by simp) _⟩
   exact AgH
def IK (P:Program) (ops:Array Oper) (Q:Exit→Act→World→Prop) (rest:List Oper):Exit→Act→World→Prop
 | .normal,a,w=>wpList P ops Q rest a w
 | e,a,w=>Q e a w
section
variable {P:Program} {md:Region.Mode} {Q:Exit→Act→World→Prop}
theorem Ns {ops:Array Oper}:∀ (f:Nat) (listed:Array Bool) (a:Act) (w:World),wpAny P md ops Q f listed a w→wpAny P md ops Q (f+1) listed a w
 | 0,listed,a,w,h=>⟨fun _=>h.2,by rw [h.1];intro i hi;cases hi⟩
 | f+1,listed,a,w,h=>⟨h.1,fun i hi=>wpOp_mono (fun a' w' h'=>Ns f _ a' w' h') (h.2 i hi)⟩
theorem Nt {ops:Array Oper} {g:Nat} {listed:Array Bool} {a:Act} {w:World} (h:wpAny P md ops Q g listed a w):∀ f,wpAny P md ops Q (f+g) listed a w
 | 0=>by rw [bj];exact h
 | f+1=>by rw [show f+1+g=(f+g)+1 by omega];exact Ns _ _ _ _ (Nt h f)
def UF (md:Region.Mode) (ops:Array Oper) (n:Nat):Bool:=(List.range n).all fun i=>match ops[i]? with
 | none=>false
 | some o=>(o.after.all fun e=>!Region.binds md e || decide (e.on<i)) && (match o.guard with|none=>true|some (g,_)=>decide (g<n))
def FP (N n:Nat):Array Bool:=((List.range N).map fun j=>decide (j<n)).toArray
def MV (md:Region.Mode) (ops:Array Oper) (n:Nat):Bool :=
 decide (n<ops.size) && Region.sinkB md ops n && Region.chainB md ops n && UF md ops n && Region.seqB md ops (ops.size - n) n (FP ops.size n)
theorem Ow (h:UF md ops n=true) (hi:i<n) (ho:ops[i]?=some o) :
  (∀ e∈o.after,Region.binds md e=true→e.on<i)∧(∀ g b,o.guard=some (g,b)→g<n):=by
 have h1:=List.all_eq_true.1 h i (List.mem_range.2 hi)
 simp only [ho,aj,Array.all_eq_true_iff_forall_mem,em,Bool.not_eq_true',decide_eq_true_eq] at h1
 refine ⟨fun e he hb=>?_,fun g b hg=>?_⟩
 ·rcases h1.1 e he with h2|h2
  ·rw [h2] at hb;cases hb
  ·exact h2
 ·have h2:=h1.2
  rw [hg] at h2
  simpa using h2
theorem GM {listed:Array Bool} (hi:i<listed.size):listed.getD i true=listed.getD i false:=by simp [hi]
section
variable {l:List Oper} {n:Nat} {listed listed':Array Bool}
theorem Ox (hn:n<l.toArray.size) {i:Nat} (hi:i<n):(l.take n).toArray[i]?=l.toArray[i]?:=by
 simp [bp,hi]
theorem Nu (hb:UF md l.toArray n=true) (hn:n<l.toArray.size) (hs:listed.size=l.toArray.size) (hs':listed'.size=n) (he:∀ i,i<n→listed'.getD i false=listed.getD i false) {i:Nat} (hi:i<n) :
  i∈Region.ready md (l.take n).toArray listed' ↔ i∈Region.ready md l.toArray listed:=by
 rw [mem_ready,mem_ready,Ox hn hi,GM (by omega),GM (by omega),he i hi]
 refine and_congr_right fun _=>exists_congr fun o=>and_congr_right fun ho=>?_
 have hk:=(Ow hb hi ho).1
 refine forall_congr' fun e=>forall_congr' fun hm=>forall_congr' fun hbd=>?_
 rw [he e.on (by have:=hk e hm hbd;omega)]
theorem ZK (h:i∈Region.ready md (l.take n).toArray listed'):i<n:=by
 obtain ⟨_,o,ho,_⟩:=mem_ready.1 h
 have:=(Array.getElem?_eq_some_iff.1 ho).1
 simp at this
 omega
theorem UG (hb:UF md l.toArray n=true) (hn:n<l.toArray.size) (hs':listed'.size=n) (hr:Region.ready md (l.take n).toArray listed'=[]):∀ i,i<n→listed'.getD i false=true:=by
 intro i
 induction i using Nat.strongRecOn with
 | _ i ih =>
  intro hi
  cases hl:listed'.getD i false with
  | true=>rfl
  | false =>
   exfalso
   have ho:l.toArray[i]?=some (l.toArray[i]'(by omega)):=jb (by omega)
   have hk:=(Ow hb hi ho).1
   have:i∈Region.ready md (l.take n).toArray listed':=mem_ready.2 ⟨by rw [GM (by omega)];exact hl,_,(Ox hn hi).trans ho,fun e he hbd=>ih e.on (hk e he hbd) (by have:=hk e he hbd;omega)⟩
   rw [hr] at this
   cases this
theorem Adn (inv:HeadInv md l.toArray n listed) (hn:n<l.toArray.size) (h:∀ i,i<n→listed.getD i false=true):listed=FP l.toArray.size n:=by
 refine Array.ext (by rw [inv.size];simp [FP]) fun i h1 h2=>?_
 have hi:i<l.toArray.size:=by rw [←inv.size];exact h1
 have e:(FP l.toArray.size n)[i]=decide (i<n):=by simp [FP]
 rw [e]
 by_cases hin:i<n
 ·have:=h i hin
  rw [decide_eq_true hin]
  simpa [h1] using this
 ·have:=inv.tail i (by omega) hi
  rw [decide_eq_false hin]
  simpa [h1] using this
theorem PP (h:LetsOut (IK P ops Q rest)):LetsOut Q:=h
theorem Ado {a:Act} {K K':Act→World→Prop} (hK:∀ a w,K a w→K' a w) (h:o.wp P a w K (IK P ops Q rest)):o.wp P a w K' Q:=by
 unfold Oper.wp at *
 generalize (execOp a.eval o).run P w=r at *
 cases r with
 | ok n w' =>
  cases n <;> simp only [Oper.upon] at h ⊢ <;>
   first
    | exact hK _ _ h
    | exact Calls.mono h (fun e w'' he=>by cases e <;> first|exact hK _ _ he|exact he)
    | exact Rows.mono h (fun _ _ he=>hK _ _ he)
 | halt x w'=>cases x <;> simp only [Oper.upon] at h ⊢ <;> exact h
theorem RH (hb:UF md l.toArray n=true) (hn:n<l.toArray.size) {i:Nat} {o:Oper} (hi:i<n) (ho:l.toArray[i]?=some o) (tmps:Array Value) :
  Region.wanted o (yielded (l.take n).toArray tmps)=Region.wanted o (yielded l.toArray tmps):=by
 have hg:=(Ow hb hi ho).2
 unfold Region.wanted
 cases h:o.guard with
 | none=>rfl
 | some gw =>
  obtain ⟨g,b⟩:=gw
  have e:yielded (l.take n).toArray tmps g=yielded l.toArray tmps g:=by
   unfold yielded
   rw [Ox hn (hg g b h)]
  simp only [e]
theorem Wz (hb:UF md l.toArray n=true) (hn:n<l.toArray.size) {i:Nat} (hi:i<n) {rest:List Oper} {a:Act} {w:World} {K K':Act→World→Prop} (hK:∀ a w,K a w→K' a w)
  (h:wpOp P (l.take n).toArray (IK P l.toArray Q rest) i K a w):wpOp P l.toArray Q i K' a w:=by
 have ho:l.toArray[i]?=some (l.toArray[i]'(by omega)):=jb (by omega)
 unfold wpOp at *
 rw [Ox hn hi] at h
 simp only [ho] at h ⊢
 rw [RH hb hn hi ho] at h
 split
 ·rename_i hw
  rw [if_pos hw] at h
  rcases h with h|⟨h1,h2⟩
  ·exact .inl (Ado hK h)
  ·exact .inr ⟨h1,PP h2⟩
 ·rename_i hw
  rw [if_neg hw] at h
  exact hK _ _ h
theorem Hq (hB:MV md l.toArray n=true):∀ (f:Nat) (listed listed':Array Bool) (a:Act) (w:World),HeadInv md l.toArray n listed→listed'.size=n→(∀ i,i<n→listed'.getD i false=listed.getD i false) →
  wpAny P md (l.take n).toArray (IK P l.toArray Q (l.drop n)) f listed' a w→wpAny P md l.toArray Q (f+(l.toArray.size - n)) listed a w:=by
 simp only [MV,aj,decide_eq_true_eq] at hB
 obtain ⟨⟨⟨⟨hn,hs⟩,hc⟩,hb⟩,hq⟩:=hB
 have hend:∀ (listed listed':Array Bool) (a:Act) (w:World),HeadInv md l.toArray n listed→listed'.size=n→(∀ i,i<n→listed'.getD i false=listed.getD i false)→Region.ready md (l.take n).toArray listed'=[] →
   wpList P l.toArray Q (l.drop n) a w→wpAny P md l.toArray Q (l.toArray.size - n) listed a w:=fun listed listed' a w inv hs' he hr h=>by
  have hall:=UG hb hn hs' hr
  have hl:=Adn inv hn (fun i hi=>by rw [←he i hi];exact hall i hi)
  rw [hl]
  have:=wpAny_of_seq (md:=md) (Q':=Q) (P:=P) (l.drop n) n (FP l.toArray.size n) a w (fun j=>by simp [bq]) (by
   rw [show (l.drop n).length=l.toArray.size - n by simp];exact hq) h
  rwa [show (l.drop n).length=l.toArray.size - n by simp] at this
 intro f
 induction f with
 | zero =>
  intro listed listed' a w inv hs' he h
  rw [bj]
  exact hend listed listed' a w inv hs' he h.1 h.2
 | succ f ih =>
  intro listed listed' a w inv hs' he h
  by_cases hr:Region.ready md (l.take n).toArray listed'=[]
  ·exact Nt (hend listed listed' a w inv hs' he hr (h.1 hr)) _
  ·obtain ⟨i0,hi0⟩:=List.exists_mem_of_ne_nil _ hr
   have hin0:=ZK hi0
   have hr0:=(Nu hb hn inv.size hs' he hin0).1 hi0
   have hun0:=(mem_ready.1 hr0).1
   rw [show f+1+(l.toArray.size - n)=(f+(l.toArray.size - n))+1 by omega]
   refine ⟨fun h0=>(by rw [h0] at hr0;cases hr0),fun i hi=>?_⟩
   have hin:i<n:=Nat.lt_of_not_le fun hle=>tail_waits hs hc hn inv _ i0 rfl hin0 hun0 i hle hi
   refine Wz hb hn hin (fun a' w' h'=>?_) (h.2 i ((Nu hb hn inv.size hs' he hin).2 hi))
   refine ih _ _ a' w' (inv.set hi hin) (by simp [hs']) (fun j hj=>?_) h'
   by_cases hij:i=j
   ·subst hij
    rw [gb,gb,Array.getElem?_setIfInBounds_self_of_lt (by omega),Array.getElem?_setIfInBounds_self_of_lt (by rw [inv.size];omega)]
   ·rw [getD_set_ne false hij,getD_set_ne false hij]
    exact he j hj
theorem MW {id:Nat} {a:Act} (n:Nat) (hm:P.follows .mixedOrders=true) (hB:MV .any l.toArray n=true)
  (h:wpAny P .any (l.take n).toArray (IK P l.toArray Q (l.drop n)) n (Array.replicate n false) a w.drew):(Code.region id l.toArray true).wp P Q a w:=by
 have hB0:=hB
 simp only [MV,aj,decide_eq_true_eq] at hB0
 have hn:=hB0.1.1.1.1
 refine wp_region_any hm ?_
 have inv0:HeadInv .any l.toArray n (Array.replicate l.toArray.size false) :=
  ⟨by simp,fun j oj _ hl=>(by rw [getD_replicate_false] at hl;cases hl),fun t _ ht=>getD_in (by simpa using ht) (getD_replicate_false _ _)⟩
 have:=Hq hB n (Array.replicate l.toArray.size false) (Array.replicate n false) a w.drew inv0 (by simp) (fun i _=>by rw [getD_replicate_false,getD_replicate_false]) h
 rwa [show n+(l.toArray.size - n)=l.toArray.size by omega] at this
end
/- A statement whose order is left open, walked by hand, under a condition S on the world. -/
end
end Go.Proofs.YtmdfjbpggbhgnaaGreatDoor
