/- What the proofs of this claim share, part 6. No conditions. -/
import Derived.Test.YtmdfjbpggbhgnaaGreatDoorMr3
import Derived.Test.YtmdfjbpggbhgnaaGreatDoorMr5
import Derived.Test.YtmdfjbpggbhgnaaGreatDoorMr4
import Derived.Test.YtmdfjbpggbhgnaaGreatDoorRows
import Derived.Laws.AppendOwnNone
import Derived.Laws.OwnMore
import Derived.Laws.Bits64b
import Derived.Deep.RegionHeld3
import Derived.Deep.DeepCutAuto
import Derived.Lib.Hide
set_option maxHeartbeats 8000000
set_option maxRecDepth 100000
set_option linter.all false
open Go.Proofs.Tryz
namespace Go.Proofs.YtmdfjbpggbhgnaaGreatDoor
open Go.RowKit Go.Deep
variable {W w w':World} {B L b base c c' cy d den g hi i k lo m n r t y z:Nat} {A:Option Addr} {a os ws xs:List Nat} {v v0 v1 v2:Value} {p:Prop} {ops:Array Oper} {rest:List Oper} {o:Oper} {Q:Exit→Act→World→Prop} {vs:List Value} {nb neg:Bool} {x:Int} {tmps:Array Value}
def w32 (ws:List Nat):List Value:=ws.map fun n:Nat=>.int .u32 (n:Int)
theorem TG (ws:List Nat):(w32 ws).length=ws.length:=by simp [w32]
theorem An.w32_ (h:An w m A (w32 ws)) {k:Nat} (hk:k<ws.length) :
  ∃ b off z,A=some ⟨b,off,none⟩∧b<m∧b<w.heap.size∧ws[k]?=some z∧w.cell? ⟨b,off+k,none⟩=some (.int .u32 (z:Int)):=by
 obtain ⟨b,off,hA,hbm,hbs,hc⟩:=h (fun h0=>by have:=TG ws;rw [h0] at this;simp at this;omega)
 exact ⟨b,off,ws[k],hA,hbm,hbs,gE hk,hc k _ (by simp [w32,hk])⟩
def Az:List Nat→Nat
 | []=>0
 | x::l=>x+4294967296*Az l
def Ar (ws:List Nat):Prop:=∀ x∈ws,x<4294967296
def Dt (ws:List Nat):Nat→Nat
 | 0=>0
 | n+1=>if ws[n]?.getD 0=0 then Dt ws n else n+1
def HG (ws:List Nat):List Nat:=ws.take (Dt ws ws.length)
theorem Ea (ws:List Nat) (n:Nat):Dt ws n≤n:=by
 induction n with
 | zero=>exact aa _
 | succ n ih =>
  unfold Dt
  split <;> omega
theorem Cd (ws:List Nat):(HG ws).length=Dt ws ws.length:=by
 have:=Ea ws ws.length
 simp [HG]
 omega
theorem BM (a b:List Nat):Az (a++b)=Az a+4294967296 ^ a.length*Az b:=by
 induction a with
 | nil=>simp [Az]
 | cons x a ih =>
  simp only [List.cons_append,Az,bw,ih,bg,dg]
  rw [ga,aq (4294967296 ^ a.length) 4294967296,ao]
theorem RD (ws:List Nat):∀ n,n≤ws.length→Az (ws.take (Dt ws n))=Az (ws.take n)
 | 0,_=>rfl
 | n+1,h=>by
  unfold Dt
  split
  ·rename_i h0
   rw [RD ws n (by omega),ay,BM]
   have:ws[n]?=some ws[n]:=gE (by omega)
   rw [this] at h0 ⊢
   simp at h0
   simp [Az,h0]
  ·rfl
theorem Yn (ws:List Nat):Az (HG ws)=Az ws:=by
 have:=RD ws ws.length (aa _)
 rw [bc] at this
 exact this
theorem Vb (ws:List Nat):∀ n,n≤ws.length→0<Dt ws n→ws[Dt ws n - 1]?.getD 0≠0
 | 0,_,h=>by simp [Dt] at h
 | n+1,hn,h=>by
  unfold Dt at h ⊢
  split at h
  ·rename_i h0
   rw [if_pos h0]
   exact Vb ws n (by omega) h
  ·rename_i h0
   rw [if_neg h0]
   simpa using h0
def AjT (w:World) (ws:List Nat) (i:Value) (wr:World):Prop:=∃ k:Nat,k≤ws.length∧i=.int .i64 k∧Dt ws k=Dt ws ws.length∧w=wr
theorem AeN:(prog.info? 126).map (fun i=>(i.zero,i.size,i.bytes))=some (some (.int .u32 0),1,4):=by kernel_rfl
theorem HH:prog.underlying 41=some (.slice 126):=by kernel_rfl
def Dw (w:World) (base:Nat) (v:Value) (xs:List Nat):Prop:=w.ownsRow base 126 1 v xs.length (w32 xs)
theorem Dw.nil_ (w:World) (base:Nat):Dw w base (.slice none 0 0) []:=World.ownsRow_nil w base _ _
theorem Dw.lit0 (h:base≤w.heap.size):Dw (w.alloc (.cells #[] 126)) base (.slice (some ⟨w.heap.size,0,none⟩) 0 0) []:=World.ownsRow_made w #[] 0 h (ad _) rfl
theorem Dw.view (h:Dw w base v xs):∃ A c,v=.slice A xs.length c∧(A=none→c=0)∧An w w.heap.size A (w32 xs):=by
 rcases h.2 with ⟨rfl,h0⟩|⟨g,cap,cur,rfl,hb,hg,hn,hm,hs,ht⟩
 ·have:xs=[]:=cj h0
  subst this
  exact ⟨none,0,rfl,fun _=>rfl,An.nil_⟩
 ·have hlt:=(World.ownsRow.lt h g rfl).2
  refine ⟨some ⟨g,0,none⟩,cap,rfl,by simp,fun _=>⟨g,0,rfl,hlt,hlt,fun j u hu=>?_⟩⟩
  have:=World.ownsRow.cells h (g:=g) rfl j u hu
  rcases j with _|j
  ·simpa [Addr.add] using this
  ·simpa [Addr.add] using this
theorem ze8f (h:p:=by
 obtain ⟨b',off',hA,_,_,hcc⟩:=hc (fun h0=>by rw [h0] at hu;simp at hu)
 cases hA
 have hu':=hcc j u hu
 rcases j with _|j
 ·simpa [Addr.add] using hu'
 ·simpa [Addr.add] using hu'):p:=h
theorem AjU {a:Act} (hgd:o.guard=none) (s x:Operand)
  (ho:o.op=.call { callee:=.builtin .append,args:=#[s,x],argTypes:=#[41,41] })
  (base:Nat) (v:Value) (xs ys:List Nat) (A:Option Addr) (c m:Nat) (hs:a.eval s=v) (hown:Dw w base v xs) (hx:a.eval x=.slice A ys.length c) (hn:A=none→c=0) (hc:An w m A (w32 ys))
  (hlen:xs.length+ys.length≤1000000) (hbase:base≤w.heap.size)
  (h:∀ v' w',Dw w' base v' (xs++ys)→w.grownBy w' v.ownBlock→Below base w w'→wpList prog ops Q rest (a.put o.dst v') w'):wpList prog ops Q (o::rest) a w:=by
 obtain ⟨i0,hi,hz0,hz1,hz2⟩:=info_parts AeN
 rcases A with _|⟨b,off,l⟩
 ·have hy:ys=[]:=by
   rcases ys with _|⟨y,ys⟩
   ·rfl
   ·obtain ⟨b,off,hA,_⟩:=hc (by simp [w32])
    cases hA
  subst hy
  have hc0:=hn rfl
  subst hc0
  exact wpList_append_own_none hgd s x 41 ho base 126 i0 1 HH hi v xs.length (w32 xs) hs hown hx (h v w (by rw [az];exact hown) ⟨rfl,rfl,rfl,aa _,fun _ _ _=>rfl⟩ (ab _ _))
 ·refine wpList_append_own w hgd s x 41 ho base 126 i0 (.int .u32 0) 1 4 HH hi hz0 hz1 hz2 rfl (by decide) v xs.length (w32 xs) hs hown ⟨b,off,l⟩ ys.length c (w32 ys) hx (by simp [w32]) ?_ ?_ (by unfold maxLen;omega) (by omega) hbase (fun v' w' h1 h2 _=>h v' w' ?_ h2 ((ab base w).grown h2 hbase (fun g hg=>(World.ownsRow.lt hown g hg).1)))
  ·intro j u hu
   exact ze8f
  ·intro u hu
   obtain ⟨z,_,rfl⟩:=List.mem_map.1 hu
   rfl
  ·have e:w32 (xs++ys)=w32 xs++w32 ys:=by simp [w32]
   unfold Dw
   rw [e,ak]
   exact h1
theorem Dw.alloc (h:Dw w base v xs) (o:Obj):Dw (w.alloc o) base v xs:=World.ownsRow.alloc h o
theorem Dw.drew (h:Dw w base v xs):Dw w.drew base v xs:=h
theorem Dw.drewN (h:Dw w base v xs) (n:Nat):Dw (w.drewN n) base v xs:=by
 induction n generalizing w with
 | zero=>exact h
 | succ n ih=>exact ih (w:=w.drew) h.drew
theorem LL {a:Act} (hgd:o.guard=none) (s x:Operand)
  (ho:o.op=.call { callee:=.builtin .append,args:=#[s,x],argTypes:=#[41,41] })
  (base:Nat) (v:Value) (xs:List Nat) (z:Nat) (g:Nat) (hs:a.eval s=v) (hown:Dw w base v xs) (hx:a.eval x=.slice (some ⟨g,0,none⟩) 1 1) (hg:w.cell? ⟨g,0,none⟩=some (.int .u32 (z:Int)))
  (hlen:xs.length<1000000) (hbase:base≤w.heap.size)
  (h:∀ v' w',Dw w' base v' (xs++[z])→w.grownBy w' v.ownBlock→Below base w w'→wpList prog ops Q rest (a.put o.dst v') w'):wpList prog ops Q (o::rest) a w:=by
 have hgl:g<w.heap.size:=by
  rcases cn g w.heap.size with h|h
  ·exact h
  ·simp [World.cell?,fi h] at hg
 exact AjU hgd s x ho base v xs [z] _ 1 w.heap.size hs hown hx (by simp) (fun _=>⟨g,0,rfl,hgl,hgl,fun j u hu=>by
  rcases j with _|j
  ·simp [w32] at hu;subst hu;exact hg
  ·simp [w32] at hu⟩) (by simp;omega) hbase h
def Ab (n:Nat):List Nat:=if h:n=0 then [] else n % 4294967296::Ab (n / 4294967296)
termination_by n
decreasing_by exact Nat.div_lt_self (by omega) (by decide)
theorem AF:Ab 0=[]:=by rw [Ab];simp
theorem CG (h:n≠0):Ab n=n % 4294967296::Ab (n / 4294967296):=by rw [Ab];simp [h]
theorem Ay (n:Nat):Ar (Ab n):=by
 induction n using Nat.strongRecOn with
 | _ n ih =>
  by_cases h:n=0
  ·subst h;rw [AF];intro x hx;cases hx
  ·rw [CG h]
   intro x hx
   rcases List.mem_cons.1 hx with rfl|hx
   ·omega
   ·exact ih _ (Nat.div_lt_self (by omega) (by decide)) x hx
theorem Am (n:Nat):Az (Ab n)=n:=by
 induction n using Nat.strongRecOn with
 | _ n ih =>
  by_cases h:n=0
  ·subst h;rw [AF];rfl
  ·rw [CG h]
   simp only [Az]
   rw [ih _ (Nat.div_lt_self (by omega) (by decide))]
   omega
theorem Yo (h:Az ws=0):∀ x∈ws,x=0:=by
 induction ws with
 | nil=>simp
 | cons x l ih =>
  simp only [Az] at h
  intro y hy
  rcases List.mem_cons.1 hy with rfl|hy
  ·omega
  ·exact ih (by omega) y hy
theorem OW (h:Ar ws) (ht:ws≠[]→ws[ws.length - 1]?.getD 0≠0):Ab (Az ws)=ws:=by
 induction ws with
 | nil=>exact AF
 | cons x l ih =>
  have hx:=h x (by simp)
  have htop:=ht (by simp)
  have hl:Ab (Az l)=l:=ih (fun y hy=>h y (by simp [hy])) (fun hne=>by
   have hp:0<l.length:=List.length_pos_iff.2 hne
   have e:(x::l)[(x::l).length - 1]?=l[l.length - 1]?:=by
    rw [show (x::l).length - 1=(l.length - 1)+1 by simp;omega]
    rfl
   rw [e] at htop
   exact htop)
  have hne:Az (x::l)≠0:=fun h0=>by
   have hz:=Yo h0
   apply htop
   have:(x::l)[(x::l).length - 1]?=some ((x::l)[(x::l).length - 1]'(by simp)):=gE _
   rw [this]
   exact hz _ (fj _)
  rw [CG hne]
  simp only [Az]
  rw [show (x+4294967296*Az l) % 4294967296=x by omega,show (x+4294967296*Az l) / 4294967296=Az l by omega,hl]
theorem Cz (h:Ar ws):HG ws=Ab (Az ws):=by
 rw [←Yn ws]
 refine (OW (fun x hx=>h x (en hx)) (fun hne=>?_)).symm
 have hne:HG ws≠[]:=hne
 show (HG ws)[(HG ws).length - 1]?.getD 0≠0
 have hl:=Cd ws
 have hp:0<(HG ws).length:=List.length_pos_iff.2 hne
 have ht:=Vb ws ws.length (aa _) (by omega)
 rw [hl]
 show (ws.take (Dt ws ws.length))[Dt ws ws.length - 1]?.getD 0≠0
 rw [ci,if_pos (by omega)]
 exact ht
theorem AC (h:n<4294967296 ^ k):(Ab n).length≤k:=by
 induction k generalizing n with
 | zero =>
  have:n=0:=by simpa using h
  subst this
  rw [AF]
  simp
 | succ k ih =>
  by_cases h0:n=0
  ·subst h0;rw [AF];simp
  ·rw [CG h0]
   have:=ih (n:=n / 4294967296) (by rw [bg] at h;exact Nat.div_lt_of_lt_mul (by rw [aq];exact h))
   simp
   omega
theorem Dw.cap_ (h:Dw w base (.slice A n c) xs):n=xs.length∧n≤c∧(A=none→c=0)∧An w w.heap.size A (w32 xs):=by
 have h2:=h.2
 obtain ⟨A',c',he,h1,h3⟩:=h.view
 cases he
 refine ⟨rfl,?_,h1,h3⟩
 rcases h2 with ⟨h0,hn⟩|⟨g,cap,cur,h0,hb,hg,hn,hm,hs,ht⟩
 ·omega
 ·cases h0
  omega
theorem AZ (a:List Nat) (k:Nat):Az (a.take (k+1))=Az (a.take k)+4294967296 ^ k*(a[k]?.getD 0):=by
 rw [ay,BM]
 by_cases h:k<a.length
 ·rw [gE h,ef,eo (by omega)]
  simp [Az]
 ·rw [dn (by omega)]
  simp [Az]
theorem TH {b:List Nat} {x:Nat} (hol:os.length=k) (hx:a[k]?.getD 0=x) (hy:b[k]?.getD 0=y) (hv:Az os+4294967296 ^ k*cy=Az (a.take k)+Az (b.take k)) (hz:z+4294967296*c'=cy+x+y) :
  Az (os++[z])+4294967296 ^ (k+1)*c'=Az (a.take (k+1))+Az (b.take (k+1)):=by
 rw [AZ a,AZ b,hx,hy,BM,hol,bg,ao]
 have e1:Az [z]=z:=by simp [Az]
 rw [e1]
 have e2:4294967296 ^ k*z+4294967296 ^ k*(4294967296*c')=4294967296 ^ k*cy+4294967296 ^ k*x+4294967296 ^ k*y:=by
  rw [←dg,hz,dg,dg]
 omega
theorem Cb (h:Ar os) (hz:z<4294967296):Ar (os++[z]):=by
 intro q hq
 rcases List.mem_append.1 hq with hq|hq
 ·exact h q hq
 ·simp at hq
  omega
theorem An.takeW (h:An w m A (w32 ws)) (n:Nat):An w m A (w32 (ws.take n)):=fun hx=>by
 have e:w32 (ws.take n)=(w32 ws).take n:=by simp [w32]
 obtain ⟨b,off,hA,hbm,hbs,hc⟩:=h (fun h0=>hx (by rw [e,h0];simp))
 refine ⟨b,off,hA,hbm,hbs,fun j u hu=>hc j u ?_⟩
 rw [e,ci] at hu
 split at hu
 ·exact hu
 ·cases hu
def Aoj (w:World) (a b:List Nat) (v cv i:Value) (wr:World):Prop :=
 ∃ (k:Nat) (os:List Nat) (cy:Nat),k≤max a.length b.length∧i=.int .i64 (k:Int)∧cv=.int .u64 (cy:Int)∧Dw wr w.heap.size v os∧os.length=k∧Ar os∧cy≤1 ∧
  Az os+4294967296 ^ k*cy=Az (a.take k)+Az (b.take k)∧Below w.heap.size w wr
theorem BE (h:Ar ws):Az ws<4294967296 ^ ws.length:=by
 induction ws with
 | nil=>simp [Az]
 | cons x l ih =>
  have h1:=h x (by simp)
  have h2:=ih (fun y hy=>h y (by simp [hy]))
  simp only [Az,bw,bg]
  omega
theorem OX {x:Nat} (h:ws[k]?=some x):Az ws=Az (ws.take k)+4294967296 ^ k*(x+4294967296*Az (ws.drop (k+1))):=by
 have hk:=(gS.1 h).1
 have hx:=(gS.1 h).2
 have e:ws=ws.take k++x::ws.drop (k+1):=by
  rw [←hx,←dv hk,ic]
 have hl:(ws.take k).length=k:=by rw [ef];omega
 conv=>lhs;rw [e]
 rw [BM,hl]
 rfl
theorem RE {K T1 T2 x D:Nat} (h1:T1<K) (h:x<y):T1+K*(x+D)<T2+K*(y+D):=by
 have h2:K*(x+D+1)≤K*(y+D):=gb K (by omega)
 rw [dg,cr] at h2
 omega
theorem Yp {b:List Nat} {x:Nat} (oka:Ar a) (okb:Ar b) (hx:a[k]?=some x) (hy:b[k]?=some y) (hd:a.drop (k+1)=b.drop (k+1)) (hne:x≠y):decide (Az a<Az b)=decide (x<y):=by
 have ha:=OX hx
 have hb:=OX hy
 have hka:=(gS.1 hx).1
 have hkb:=(gS.1 hy).1
 have la:=BE (ws:=a.take k) (fun z hz=>oka z (en hz))
 have lb:=BE (ws:=b.take k) (fun z hz=>okb z (en hz))
 rw [ef,eo (by omega)] at la lb
 rw [hd] at ha
 rcases Nat.lt_or_gt_of_ne hne with h|h
 ·have:=RE (T2:=Az (b.take k)) (D:=4294967296*Az (b.drop (k+1))) la h
  rw [←ha,←hb] at this
  rw [decide_eq_true this,decide_eq_true h]
 ·have:=RE (T2:=Az (a.take k)) (D:=4294967296*Az (b.drop (k+1))) lb h
  rw [←ha,←hb] at this
  rw [decide_eq_false (by omega),decide_eq_false (by omega)]
def Yq (a b:List Nat):Bool:=if a.length=b.length then decide (Az a<Az b) else decide (a.length<b.length)
def AjV (w:World) (a b:List Nat) (i:Value) (wr:World):Prop:=∃ k nq:Nat,k≤a.length∧i=.int .i64 ((k:Int) - 1)∧a.drop k=b.drop k∧w.drewN nq=wr
theorem RF {b:List Nat} {x:Nat} (hx:a[k]?=some x) (hy:b[k]?=some x) (h:a.drop (k+1)=b.drop (k+1)):a.drop k=b.drop k:=by
 have hka:=(gS.1 hx)
 have hkb:=(gS.1 hy)
 rw [dv hka.1,dv hkb.1,hka.2,hkb.2,h]
theorem Ys {b:List Nat} {br x:Nat} (hol:os.length=k) (hx:a[k]?.getD 0=x) (hy:b[k]?.getD 0=y) (hv:Az os+Az (b.take k)=Az (a.take k)+4294967296 ^ k*br) (hz:z+br+y=x+4294967296*c') :
  Az (os++[z])+Az (b.take (k+1))=Az (a.take (k+1))+4294967296 ^ (k+1)*c':=by
 rw [AZ a,AZ b,hx,hy,BM,hol,bg,ao]
 have e1:Az [z]=z:=by simp [Az]
 rw [e1]
 have e2:4294967296 ^ k*z+4294967296 ^ k*br+4294967296 ^ k*y=4294967296 ^ k*x+4294967296 ^ k*(4294967296*c'):=by
  rw [←dg,←dg,hz,dg]
 omega
theorem AjW {b:List Nat} {br:Nat} (hol:os.length=a.length) (hok:Ar os) (hbr:br≤1) (hle:Az b≤Az a) (hv:Az os+Az b=Az a+4294967296 ^ a.length*br):Az os=Az a - Az b:=by
 have h:=BE hok
 rw [hol] at h
 rcases cn 0 br with h0|h0
 ·have:br=1:=by omega
  subst this
  rw [cr] at hv
  omega
 ·have:br=0:=by omega
  subst this
  rw [Nat.mul_zero] at hv
  omega
def Aok (w:World) (a b:List Nat) (v cv i:Value) (wr:World):Prop :=
 ∃ (k:Nat) (os:List Nat) (br:Nat),k≤a.length∧i=.int .i64 (k:Int)∧cv=.int .i64 (br:Int)∧Dw wr w.heap.size v os∧os.length=k∧Ar os∧br≤1 ∧
  Az os+Az (b.take k)=Az (a.take k)+4294967296 ^ k*br∧Below w.heap.size w wr
structure AjX (neg:Bool) (n:Nat) (den:Nat):Prop where
 zero:n=0→neg=false∧den=0
 fine:den≤65536
 odd:den≠0→n % 2=1
theorem Cj (h:n≠0):0<(Ab n).length:=by
 rw [CG h]
 simp
theorem OY (h:n≠0):(Ab n)[0]?=some (n % 4294967296):=by
 rw [CG h]
 rfl
theorem MW (h:n≠0):(Ab n)[(Ab n).length - 1]?.getD 0≠0:=by
 induction n using Nat.strongRecOn with
 | _ n ih =>
  rw [CG h]
  by_cases h2:n / 4294967296=0
  ·rw [h2,AF]
   simp
   omega
  ·have:=ih _ (Nat.div_lt_self (by omega) (by decide)) h2
   have hl:=Cj h2
   rw [show (n % 4294967296::Ab (n / 4294967296)).length - 1=((Ab (n / 4294967296)).length - 1)+1 by simp;omega]
   exact this
def Bz (w:World) (b:Nat) (vs:List Value) (t:TypeId):Prop:=w.heap[b]?=some (.cells vs.toArray t (0,0))
theorem Bz.lt (h:Bz w b vs t):b<w.heap.size:=(Array.getElem?_eq_some_iff.1 h).1
theorem Bz.new_ (w:World) (vs:List Value) (t:TypeId):Bz (w.alloc (.cells vs.toArray t)) w.heap.size vs t:=heap_alloc_new w _
theorem Bz.below (h:Bz w b vs t) (hb:Below B w w') (hB:b<B):Bz w' b vs t:=(hb.block b hB).trans h
theorem Bz.cell (h:Bz w b vs t) (j:Nat):w.cell? ⟨b,j,none⟩=vs[j]?:=by
 rw [cell_of_row w b j vs.toArray t (0,0) h]
 simp
theorem Bz.free (h:Bz w b vs t) (j:Nat):w.frozen? ⟨b,j,none⟩=false:=frozen_of_row w b j vs.toArray t h
theorem Bz.set_ (h:Bz w b vs t) (j:Nat) (u:Value):Bz (w.setCell ⟨b,j,none⟩ u) b (vs.set j u) t:=by
 have:=heap_setCell_same w b j vs.toArray t u h
 simpa [Bz] using this
def sgn (neg:Bool) (n:Nat):Int:=if n=0 then 0 else if neg=true then -1 else 1
theorem Yt {x s:Nat} (hc:c<2 ^ s) (hx:x<4294967296) (hs:s≤32):bits .or .u64 (c:Int) ((x*2 ^ s:Nat):Int)=((c+x*2 ^ s:Nat):Int):=by
 have h32:2 ^ s≤2 ^ 32:=ap (by decide) hs
 have hp:x*2 ^ s≤4294967295*2 ^ 32:=ep (by omega) h32
 rw [bits_or_u64_nat c (x*2 ^ s) (by omega) (by omega)]
 have h:=Nat.two_pow_add_eq_or_of_lt hc x
 rw [Nat.or_comm,aq x,←h,Nat.add_comm]
theorem Qe:(prog.info? 126).map (fun i=>(i.zero,i.size,i.bytes))=some (some (.int .u32 0),1,4):=by kernel_rfl
theorem Eq (q:Nat):Az (List.replicate q 0)=0:=by
 induction q with
 | zero=>rfl
 | succ q ih=>rw [jx];simp [Az,ih]
theorem MY (q:Nat):Ar (List.replicate q 0):=fun x hx=>by
 have:=(List.mem_replicate.1 hx).2
 omega
theorem Yu {x p:Nat} (hc:cy<p) (hx:x<4294967296):(cy+x*p) / 4294967296<p:=by
 have h:x*p≤4294967295*p:=Nat.mul_le_mul_right _ (by omega)
 omega
theorem Aol {x p:Nat} (hp:p=2 ^ r) (hc:cy<p) (hx:x<4294967296) (hr:r≤32):bits .or .u64 (cy:Int) (IntKind.u64.wrap ((x:Int)*2 ^ r))=((cy+x*p:Nat):Int):=by
 subst hp
 have h32:2 ^ r≤2 ^ 32:=ap (by decide) hr
 have hb:x*2 ^ r≤4294967295*2 ^ 32:=ep (by omega) h32
 have e:IntKind.u64.wrap ((x:Int)*2 ^ r)=((x*2 ^ r:Nat):Int):=by
  have e1:(x:Int)*2 ^ r=((x*2 ^ r:Nat):Int):=by simp
  rw [e1]
  have:IntKind.u64.wrap ((x*2 ^ r:Nat):Int)=((x*2 ^ r:Nat):Int) % 18446744073709551616:=by simp [IntKind.wrap,IntKind.signed,IntKind.bits]
  rw [this]
  omega
 rw [e]
 exact Yt hc hx hr
theorem Yv {q x p:Nat} (hol:os.length=q+k) (hx:a[k]?.getD 0=x) (hv:Az os+4294967296 ^ (q+k)*cy=Az (a.take k)*(4294967296 ^ q*p)) (hz:z+4294967296*c'=cy+x*p) :
  Az (os++[z])+4294967296 ^ (q+(k+1))*c'=Az (a.take (k+1))*(4294967296 ^ q*p):=by
 rw [AZ a,hx,BM,hol,bj,←hv]
 have e1:Az [z]=z:=by simp [Az]
 rw [e1,show q+(k+1)=(q+k)+1 by omega,bg 4294967296 (q+k),bd]
 have e2:4294967296 ^ q*4294967296 ^ k*z+4294967296 ^ q*4294967296 ^ k*(4294967296*c')=4294967296 ^ q*4294967296 ^ k*cy+4294967296 ^ q*4294967296 ^ k*(x*p):=by
  rw [←dg,hz,dg]
 have e3:4294967296 ^ k*x*(4294967296 ^ q*p)=4294967296 ^ q*4294967296 ^ k*(x*p):=by
  rw [aq (4294967296 ^ q) (4294967296 ^ k),ao,ao]
  congr 1
  rw [←ao,←ao,aq x]
 rw [e3,ao (4294967296 ^ q*4294967296 ^ k)]
 omega
theorem MZ (n:Nat):2 ^ n=4294967296 ^ (n / 32)*2 ^ (n % 32):=by
 have h:n=32*(n / 32)+n % 32:=by omega
 have e:(4294967296:Nat)=2 ^ 32:=by decide
 rw [e,←dp,←bd,←h]
def Aom (w:World) (a:List Nat) (q p:Nat) (v cv i:Value) (wr:World):Prop :=
 ∃ (k:Nat) (os:List Nat) (cy:Nat),k≤a.length∧i=.int .i64 (k:Int)∧cv=.int .u64 (cy:Int)∧Dw wr w.heap.size v os∧os.length=q+k∧Ar os∧cy<p ∧
  Az os+4294967296 ^ (q+k)*cy=Az (a.take k)*(4294967296 ^ q*p)∧Below w.heap.size w wr
theorem Na (h:Ar a) (i:Nat):Az a / 4294967296 ^ i=Az (a.drop i):=by
 by_cases hi:i≤a.length
 ·have e:=BM (a.take i) (a.drop i)
  rw [ic,ef,eo hi] at e
  have hl:=BE (ws:=a.take i) (fun x hx=>h x (en hx))
  rw [ef,eo hi] at hl
  rw [e,ig _ _ (Nat.pow_pos (by decide)),fk hl,bo]
 ·rw [gc (by omega)]
  have hl:=BE h
  refine fk (aj hl (ap (by decide) (by omega)))
theorem El:Az (a.drop i)=a[i]?.getD 0+4294967296*Az (a.drop (i+1)):=by
 by_cases hi:i<a.length
 ·rw [dv hi,gE hi]
  rfl
 ·rw [gc (by omega),gc (by omega),dn (by omega)]
  rfl
theorem AgQ (n:Nat):2 ^ n=4294967296 ^ (n / 32)*2 ^ (n % 32):=MZ n
theorem GO (h:Ar a) (i:Nat):Az a / 2 ^ i % 2=(a[i / 32]?.getD 0) / 2 ^ (i % 32) % 2:=by
 rw [AgQ i,←jy,Na h,El]
 generalize a[i / 32]?.getD 0=x
 generalize Az (a.drop (i / 32+1))=y
 have e:(4294967296:Nat)=2 ^ (i % 32)*(2*2 ^ (31 - i % 32)):=by
  rw [←ii,←bd,show i % 32+(31 - i % 32).succ=32 by omega]
 rw [show 4294967296*y=2 ^ (i % 32)*(2*(2 ^ (31 - i % 32)*y)) by rw [←ao,←ao,ao (2 ^ (i % 32)),←e]]
 rw [ig _ _ (ax _)]
 omega
def Ml (v i:Nat):Bool:=decide (v % 2 ^ i≠0)
theorem Yw (v:Nat):Ml v 0=false:=by simp [Ml,Nat.mod_one]
theorem RH (v i:Nat):Ml v (i+1)=(Ml v i || v / 2 ^ i % 2 == 1):=by
 have e:v % 2 ^ (i+1)=v % 2 ^ i+2 ^ i*(v / 2 ^ i % 2):=by
  rw [bg,Nat.mod_mul]
 have hp:=ax i
 unfold Ml
 rw [e]
 rcases Nat.mod_two_eq_zero_or_one (v / 2 ^ i) with h|h
 ·rw [h,Nat.mul_zero,bz]
  simp
 ·rw [h,cr]
  have:v % 2 ^ i+2 ^ i≠0:=by omega
  simp [this]
theorem Acq {v j:Nat} (h:v<2 ^ i) (hj:i≤j):Ml v j=Ml v i:=by
 unfold Ml
 rw [dw h,dw (aj h (ap (by decide) hj))]
theorem AgR {x:Nat} (hr:r≤31):(x+4294967296*(y+4294967296*t)) / 2 ^ r % 4294967296=(x+y*4294967296) / 2 ^ r % 4294967296:=by
 have e:(4294967296:Nat)=2 ^ r*2 ^ (32 - r):=by rw [←bd,show r+(32 - r)=32 by omega]
 rw [show x+4294967296*(y+4294967296*t)=(x+y*4294967296)+2 ^ r*(4294967296*(2 ^ (32 - r)*t)) by
  have:4294967296*(4294967296*t)=2 ^ r*(4294967296*(2 ^ (32 - r)*t)):=by
   rw [←ao,←ao,←ao,aq (2 ^ r) 4294967296,ao 4294967296 (2 ^ r),←e]
  omega]
 rw [ig _ _ (ax _)]
 omega
theorem Yx (h:Ar a) (hol:os.length=k) (hv:Az os=Az a / 2 ^ n % 4294967296 ^ k)
  (hz:z=(a[n / 32+k]?.getD 0+a[n / 32+k+1]?.getD 0*4294967296) / 2 ^ (n % 32) % 4294967296) :
  Az (os++[z])=Az a / 2 ^ n % 4294967296 ^ (k+1):=by
 rw [BM,hol,hv,bg,Nat.mod_mul]
 congr 1
 have e1:Az [z]=z:=by simp [Az]
 have e2:Az a / 2 ^ n / 4294967296 ^ k=Az (a.drop (n / 32+k)) / 2 ^ (n % 32):=by
  rw [←Na h,bd,AgQ n]
  simp only [jy]
  congr 1
  rw [ao,ao,aq (2 ^ _)]
 rw [e1,e2,El,El,AgR (by omega),hz]
theorem AeO (h:Ar a) (hk:a.length≤n / 32+k) (hv:Az os=Az a / 2 ^ n % 4294967296 ^ k):Az os=Az a / 2 ^ n:=by
 rw [hv]
 refine dw ?_
 have hl:=BE h
 refine (ij (ax _)).2 (aj hl ?_)
 rw [AgQ n,←ao,←bd]
 refine lT (ap (by decide) (show a.length≤k+n / 32 by omega)) (Nat.le_mul_of_pos_right _ (ax _))
theorem TI {x:Nat} (hx:x<4294967296):bits .and .u32 ((x:Int) / 2 ^ r) 1=((x / 2 ^ r % 2:Nat):Int):=by
 have e:(x:Int) / 2 ^ r=((x / 2 ^ r:Nat):Int):=by simp
 have hl:x / 2 ^ r≤x:=ik _ _
 rw [e]
 generalize x / 2 ^ r=y at hl
 have:=bits_mask .u32 32 (by decide) (fun n h0 h1=>by rw [jg];omega) 1 (by decide) (y:Int) (by omega) (by omega)
 rw [show ((2:Int) ^ 1 - 1)=1 by decide,show ((2:Int) ^ 1)=2 by decide] at this
 rw [this]
 omega
theorem TJ (y:Nat):(((y:Nat):Int) == 1)=(y == 1):=by
 by_cases h:y=1
 ·subst h;rfl
 ·have h2:(((y:Nat):Int) == 1)=false:=by rw [beq_eq_false_iff_ne];omega
  have h3:(y == 1)=false:=by rw [beq_eq_false_iff_ne];omega
  rw [h2,h3]
theorem AeP {x:Nat} (h:Ar a) (hx:x<4294967296) (hg:a[k / 32]?.getD 0=x):(bits .and .u32 ((x:Int) / 2 ^ (k % 32)) 1 == 1)=(Az a / 2 ^ k % 2 == 1):=by
 rw [TI hx,GO h,hg]
 exact TJ _
theorem Aon {x:Nat} (hx:x<4294967296) (hy:y<4294967296):bits .or .u64 (x:Int) ((y:Int)*4294967296)=((x+y*4294967296:Nat):Int):=by
 have:=Yt (c:=x) (x:=y) (s:=32) (by omega) hy (by omega)
 rw [←this]
 simp
def AjY (w:World) (a:List Nat) (n q:Nat) (v i:Value) (wr:World):Prop :=
 ∃ (k:Nat) (os:List Nat),q+k≤a.length∧i=.int .i64 ((q+k:Nat):Int)∧Dw wr w.heap.size v os∧os.length=k∧Ar os∧Az os=Az a / 2 ^ n % 4294967296 ^ k∧Below w.heap.size w wr
def Aoo (a:List Nat) (n:Nat) (w:World) (cv i:Value) (wr:World):Prop :=
 ∃ k:Nat,k≤n∧k≤32*a.length∧i=.int .i64 (k:Int)∧cv=.bool (Ml (Az a) k)∧w=wr
def nf (m:Int):Nat→Int × Nat
 | 0=>(m,0)
 | d+1=>if m % 2=0 then nf (m / 2) d else (m,d+1)
def sg (neg:Bool) (n:Nat):Int:=if neg=true then -(n:Int) else n
theorem TK (d:Nat):nf 0 d=(0,0):=by
 induction d with
 | zero=>rfl
 | succ d ih=>simp [nf,ih]
theorem Acr (m:Int) (d:Nat):(nf m d).2≤d:=by
 induction d generalizing m with
 | zero=>exact aa _
 | succ d ih =>
  unfold nf
  split
  ·have:=ih (m / 2);omega
  ·exact aa _
theorem Yy (m:Int) (d:Nat):(nf m d).2≠0→(nf m d).1 % 2=1:=by
 induction d generalizing m with
 | zero=>simp [nf]
 | succ d ih =>
  unfold nf
  split
  ·exact ih _
  ·intro _
   simp
   omega
theorem Fb {m:Int} (h:d≠0→m % 2=1):nf m d=(m,d):=by
 cases d with
 | zero=>rfl
 | succ d =>
  have:=h (by omega)
  simp [nf,this]
theorem Acs (m:Int) (d:Nat):(nf m d).1*2 ^ d=m*2 ^ (nf m d).2:=by
 induction d generalizing m with
 | zero=>rfl
 | succ d ih =>
  unfold nf
  split
  ·rename_i h
   rw [il,←ar,ih]
   have:m=m / 2*2:=by omega
   rw [ar,eg (2 ^ _) 2,←ar,←this]
  ·rfl
theorem Gn (m:Int) (d:Nat):(nf m d).1.natAbs≤m.natAbs:=by
 induction d generalizing m with
 | zero=>exact aa _
 | succ d ih =>
  unfold nf
  split
  ·have:=ih (m / 2);omega
  ·exact aa _
theorem Hk (neg:Bool) (n:Nat):(sg neg n).natAbs=n:=by
 unfold sg
 split <;> omega
theorem Yz (h:n≠0):decide (sg neg n<0)=neg:=by
 unfold sg
 cases neg <;> simp <;> omega
theorem Qf (m:Int):sg (decide (m<0)) m.natAbs=m:=by
 unfold sg
 by_cases h:m<0
 ·simp [h];omega
 ·simp [h];omega
theorem YA (hk:k<den) (h:n / 2 ^ k % 2=0):nf (sg neg (n / 2 ^ k)) (den - k)=nf (sg neg (n / 2 ^ (k+1))) (den - (k+1)):=by
 rw [bg,←jy,show den - k=(den - (k+1))+1 by omega]
 generalize n / 2 ^ k=y at *
 show (if sg neg y % 2=0 then nf (sg neg y / 2) (den - (k+1)) else _)=_
 have e1:sg neg y % 2=0:=by unfold sg;split <;> omega
 have e2:sg neg y / 2=sg neg (y / 2):=by unfold sg;split <;> omega
 rw [if_pos e1,e2]
theorem AJ {a:Nat} (h:a≤b):(Ab a).length≤(Ab b).length:=by
 refine AC (gd h ?_)
 have:=BE (Ay b)
 rwa [Am] at this
theorem RJ (y:Nat):(((y:Nat):Int) == 0)=(y == 0):=by
 by_cases h:y=0
 ·subst h;rfl
 ·have h2:(((y:Nat):Int) == 0)=false:=by rw [beq_eq_false_iff_ne];omega
  have h3:(y == 0)=false:=by rw [beq_eq_false_iff_ne];omega
  rw [h2,h3]
theorem AjZ {x:Nat} (h:Ar a) (hx:x<4294967296) (hg:a[k / 32]?.getD 0=x):(bits .and .u32 ((x:Int) / 2 ^ (k % 32)) 1 == 0)=(Az a / 2 ^ k % 2 == 0):=by
 rw [TI hx,GO h,hg]
 exact RJ _
theorem Aka (h:n % 2 ^ k=0) (hz:n / 2 ^ k % 2=0):n % 2 ^ (k+1)=0:=by
 rw [bg,Nat.mod_mul,h,hz]
 simp
def DyR (w:World) (lo hi:Nat) (v:Value) (x:Int) (d:Nat):Prop :=
 ∃ A c,v=.agg #[.bool (decide (x<0)),.slice A (Ab x.natAbs).length c,.int .i64 (d:Int)]∧(A=none→c=0)∧(Ab x.natAbs).length≤c∧An w hi A (w32 (Ab x.natAbs)) ∧
  (∀ a,A=some a→lo≤a.block)∧d≤65536∧(d≠0→x % 2=1)
theorem DyR.zero_ (w:World) (lo hi:Nat):DyR w lo hi (.agg #[.bool false,.slice none 0 0,.int .i64 0]) 0 0:=by
 refine ⟨none,0,?_,fun _=>rfl,?_,?_,by simp,by omega,by simp⟩
 ·rw [show (0:Int).natAbs=0 by rfl,AF];rfl
 ·rw [show (0:Int).natAbs=0 by rfl,AF];exact aa _
 ·rw [show (0:Int).natAbs=0 by rfl,AF];exact An.nil_
def Aop (w:World) (i:Value) (wr:World):Prop:=i=.int .i64 0∧w=wr
def Aoq (n den:Nat) (neg:Bool) (w:World) (i:Value) (wr:World):Prop :=
 ∃ k:Nat,k≤den∧k≤32*(Ab n).length∧i=.int .i64 (k:Int)∧n % 2 ^ k=0∧nf (sg neg n) den=nf (sg neg (n / 2 ^ k)) (den - k)∧w=wr
theorem DyR.below (h:DyR w lo hi v x d) (hb:Below B w w') (hB:hi≤B):DyR w' lo hi v x d:=by
 obtain ⟨A,c,e,h1,h2,h3,h4,h5,h6⟩:=h
 exact ⟨A,c,e,h1,h2,h3.below hb hB,h4,h5,h6⟩
theorem DyR.more {hi':Nat} (h:DyR w lo hi v x d) (hB:hi≤hi'):DyR w lo hi' v x d:=by
 obtain ⟨A,c,e,h1,h2,h3,h4,h5,h6⟩:=h
 exact ⟨A,c,e,h1,h2,h3.more hB,h4,h5,h6⟩
theorem DyR.low {lo':Nat} (h:DyR w lo hi v x d) (hB:lo'≤lo):DyR w lo' hi v x d:=by
 obtain ⟨A,c,e,h1,h2,h3,h4,h5,h6⟩:=h
 exact ⟨A,c,e,h1,h2,h3,fun a ha=>lT hB (h4 a ha),h5,h6⟩
theorem An.setD {xs:List Value} (h:An w m A xs) {b j:Nat} (u:Value) (hA:∀ a:Addr,A=some a→a.block≠b):An (w.setCell ⟨b,j,none⟩ u) m A xs:=fun hx=>by
 obtain ⟨g,off,rfl,hbm,hbs,hc⟩:=h hx
 refine ⟨g,off,rfl,hbm,by simpa using hbs,fun i u hu=>?_⟩
 have hne:g≠b:=hA _ rfl
 rw [World.cell?_setCell_other _ _ _ _ (by first|(simp;omega)|simp_all)]
 exact hc i u hu
theorem DyR.set_ (h:DyR w lo hi v x d) (hb:b<lo) (j:Nat) (u:Value):DyR (w.setCell ⟨b,j,none⟩ u) lo hi v x d:=by
 obtain ⟨A,c,e,h1,h2,h3,h4,h5,h6⟩:=h
 exact ⟨A,c,e,h1,h2,h3.setD u (fun a ha h0=>by have:=h4 a ha;omega),h4,h5,h6⟩
theorem DyR.form (h:DyR w lo hi v x d):∃ nb A L c,v=.agg #[.bool nb,.slice A L c,.int .i64 (d:Int)] ∧
  Hid (nb=decide (x<0)∧L=(Ab x.natAbs).length∧(A=none→c=0)∧L≤c∧An w hi A (w32 (Ab x.natAbs))∧d≤65536∧(d≠0→x % 2=1)):=by
 obtain ⟨A,c,e,h1,h2,h3,h4,h5,h6⟩:=h
 exact ⟨_,A,_,c,e,li ⟨rfl,rfl,h1,h2,h3,h5,h6⟩⟩
theorem AgS (h5:d≤65536) (h6:d≠0→x % 2=1):AjX (decide (x<0)) x.natAbs d:=by
 refine ⟨fun h=>?_,h5,fun h=>by have:=h6 h;omega⟩
 have hx:x=0:=by omega
 subst hx
 refine ⟨by simp,?_⟩
 rcases df d with h|h
 ·exact h
 ·have:=h6 (by omega)
  omega
theorem Akb (h6:d≠0→x % 2=1):nf x d=(x,d):=Fb h6
def sgI (x:Int):Int:=if x=0 then 0 else if x<0 then -1 else 1
theorem Bz.other_ (h:Bz w b vs t) {k:Nat} (hk:b≠k) (j:Nat) (u:Value):Bz (w.setCell ⟨k,j,none⟩ u) b vs t:=by
 unfold Bz
 rw [heap_setCell_other _ _ _ _ hk]
 exact h
theorem Bz.cells_ (h:Bz w b vs t) (hm:b<m):An w m (some ⟨b,0,none⟩) vs:=fun _=>⟨b,0,rfl,hm,h.lt,fun j u hu=>by
 have:=h.cell j
 rw [bo,this]
 exact hu⟩
theorem Qg:Az [lo,hi]=lo+4294967296*hi:=by simp [Az]
theorem AgT (h1:lo<4294967296) (h2:hi<4294967296):Ar [lo,hi]:=by
 intro x hx
 simp at hx
 omega
def OwnD (w:World) (r:Nat):Prop:=∃ v0 v1 v2,Bz w r [v0,v1,v2] 43
structure SK (W:World) (m r:Nat) (w:World):Prop where
 is:Below m W w
 fits:m≤w.heap.size
 own:OwnD w r
theorem SK.refl (h:m≤w.heap.size) (ho:OwnD w r):SK w m r w:=⟨ab _ _,h,ho⟩
theorem SK.drew (h:SK W m r w):SK W m r w.drew:=⟨h.is.drew,h.fits,h.own⟩
theorem Bz.call (h:Bz w b vs t) (hb:Below w.heap.size w w'):Bz w' b vs t:=h.below hb h.lt
theorem SK.call (h:SK W m r w) (hb:Below w.heap.size w w'):SK W m r w' :=
 ⟨h.is.trans (hb.mono h.fits),lT h.fits hb.size,let ⟨_,_,_,hr⟩:=h.own;⟨_,_,_,hr.call hb⟩⟩
theorem SK.set (h:SK W m r w) (hm:m≤r) (j:Nat) (u:Value):SK W m r (w.setCell ⟨r,j,none⟩ u):=by
 refine ⟨h.is.setCell hm u,by simpa using h.fits,?_⟩
 obtain ⟨v0,v1,v2,hr⟩:=h.own
 have h2:=hr.set_ j u
 rcases j with _|_|_|j
 ·exact ⟨_,_,_,h2⟩
 ·exact ⟨_,_,_,h2⟩
 ·exact ⟨_,_,_,h2⟩
 ·exact ⟨_,_,_,h2⟩
theorem SK.lt (h:SK W m r w):r<w.heap.size:=let ⟨_,_,_,hr⟩:=h.own;hr.lt
theorem SK.all (h:SK W m r w):(∀ b o,b<m→w.cell? ⟨b,o,none⟩=W.cell? ⟨b,o,none⟩)∧SK W m r w :=
 ⟨fun _ _ hb=>h.is.cell (p:=⟨_,_,none⟩) hb,h⟩
theorem SK.cells (h:SK W m r w):∃ v0 v1 v2,Bz w r [v0,v1,v2] 43∧w.cell? ⟨r,0,none⟩=some v0∧w.cell? ⟨r,1,none⟩=some v1∧w.cell? ⟨r,2,none⟩=some v2∧(∀ o,w.frozen? ⟨r,o,none⟩=false):=by
 obtain ⟨v0,v1,v2,hr⟩:=h.own
 exact ⟨v0,v1,v2,hr,hr.cell 0,hr.cell 1,hr.cell 2,hr.free⟩
theorem Dx (a b:Nat):(Ab (a+b)).length≤max (Ab a).length (Ab b).length+1:=by
 refine AC ?_
 have h1:=BE (Ay a)
 have h2:=BE (Ay b)
 rw [Am] at h1 h2
 have e1:4294967296 ^ (Ab a).length≤4294967296 ^ max (Ab a).length (Ab b).length:=ap (by decide) (by omega)
 have e2:4294967296 ^ (Ab b).length≤4294967296 ^ max (Ab a).length (Ab b).length:=ap (by decide) (by omega)
 rw [bg]
 have h0:0<4294967296 ^ max (Ab a).length (Ab b).length:=Nat.pow_pos (by decide)
 omega
theorem Bo (a n:Nat):(Ab (a*2 ^ n)).length≤(Ab a).length+n / 32+1:=by
 refine AC ?_
 have h1:=BE (Ay a)
 rw [Am] at h1
 have e:2 ^ n≤4294967296 ^ (n / 32+1):=by
  rw [show (4294967296:Nat)=2 ^ 32 by decide,←dp]
  exact ap (by decide) (by omega)
 rw [ga,bd]
 exact aj (jh h1 (ax _)) (gb _ e)
def WdR (w:World) (hi:Nat) (v:Value) (n:Nat):Prop:=∃ A c,v=.slice A (Ab n).length c∧(A=none→c=0)∧(Ab n).length≤c∧An w hi A (w32 (Ab n))
theorem WdR.below (h:WdR w hi v n) (hb:Below B w w') (hB:hi≤B):WdR w' hi v n:=by
 obtain ⟨A,c,e,h1,h2,h3⟩:=h
 exact ⟨A,c,e,h1,h2,h3.below hb hB⟩
theorem WdR.more {hi':Nat} (h:WdR w hi v n) (hB:hi≤hi'):WdR w hi' v n:=by
 obtain ⟨A,c,e,h1,h2,h3⟩:=h
 exact ⟨A,c,e,h1,h2,h3.more hB⟩
theorem WdR.form (h:WdR w hi v n):∃ A L c,v=.slice A L c:=by
 obtain ⟨A,c,e,_⟩:=h
 exact ⟨A,_,c,e⟩
theorem DyR.words (h:DyR w lo hi (.agg #[.bool nb,.slice A L c,.int .i64 (d:Int)]) x d):WdR w hi (.slice A L c) x.natAbs:=by
 obtain ⟨A',c',e,h1,h2,h3,_⟩:=h
 cases e
 exact ⟨_,_,rfl,h1,h2,h3⟩
theorem TL (a b:Nat):Yq (Ab a) (Ab b)=decide (a<b):=by
 unfold Yq
 by_cases h:(Ab a).length=(Ab b).length
 ·rw [if_pos h,Am,Am]
 ·rw [if_neg h]
  by_cases h2:a<b
  ·have:=AJ (Nat.le_of_lt h2)
   rw [decide_eq_true h2,decide_eq_true (by omega)]
  ·have:=AJ (Nat.le_of_not_lt h2)
   rw [decide_eq_false h2,decide_eq_false (by omega)]
def Ci (x:Int) (dx:Nat) (y:Int) (dy:Nat):Int × Nat:=nf (x*2 ^ (max dx dy - dx)+y*2 ^ (max dx dy - dy)) (max dx dy)
theorem Vc (x:Int) (k:Nat):sg (decide (x<0)) (x.natAbs*2 ^ k)=x*2 ^ k:=by
 have e:((x.natAbs*2 ^ k:Nat):Int)=(x.natAbs:Int)*2 ^ k:=by simp
 unfold sg
 by_cases h:x<0
 ·have:(x.natAbs:Int) = -x:=by omega
  rw [if_pos (by simpa using h),e,this,dq,Int.neg_neg]
 ·have:(x.natAbs:Int)=x:=by omega
  rw [if_neg (by simpa using h),e,this]
theorem AgU (nb:Bool) (a b:Nat):sg nb (a+b)=sg nb a+sg nb b:=by
 unfold sg
 split <;> omega
theorem AgV {nb2:Bool} {a:Nat} (hn:nb≠nb2) (h:a<b):sg nb2 (b - a)=sg nb a+sg nb2 b:=by
 unfold sg
 cases nb <;> cases nb2 <;> simp at hn ⊢ <;> omega
theorem AgW {nb2:Bool} {a:Nat} (hn:nb≠nb2) (h:b≤a):sg nb (a - b)=sg nb a+sg nb2 b:=by
 unfold sg
 cases nb <;> cases nb2 <;> simp at hn ⊢ <;> omega
theorem Nb (x:Int) (k:Nat):(x*2 ^ k).natAbs=x.natAbs*2 ^ k:=by
 rw [gf,fm]
 rfl
theorem YB {y:Int} {dx dy:Nat} (l1:(Ab x.natAbs).length≤50000) (l2:(Ab y.natAbs).length≤50000) (h1:dx≤65536) (h2:dy≤65536):(Ab (Ci x dx y dy).1.natAbs).length≤100000:=by
 unfold Ci
 refine lT (AJ (Gn _ _)) ?_
 refine lT (AJ (Int.natAbs_add_le _ _)) ?_
 rw [Nb,Nb]
 have e1:=Bo x.natAbs (max dx dy - dx)
 have e2:=Bo y.natAbs (max dx dy - dy)
 have e3:=Dx (x.natAbs*2 ^ (max dx dy - dx)) (y.natAbs*2 ^ (max dx dy - dy))
 omega
theorem Fh {dx:Nat} (h:dx≠0→x % 2=1):Ci x dx 0 0=(x,dx):=by
 unfold Ci
 rw [show max dx 0=dx by omega]
 simp
 exact Fb h
def BI (x:Int) (dx:Nat) (y:Int) (dy:Nat):Int:=sgI (Ci x dx (-y) dy).1
def Gh (x:Int) (dx:Nat) (y:Int) (dy:Nat):Int × Nat:=if 0<BI x dx y dy then (y,dy) else (x,dx)
def FJ (x:Int) (dx:Nat) (y:Int) (dy:Nat):Int × Nat:=if BI x dx y dy<0 then (y,dy) else (x,dx)
theorem DyR.bound (h:DyR w lo hi v x d):d≤65536∧(d≠0→x % 2=1):=by
 obtain ⟨A,c,e,h1,h2,h3,h4,h5,h6⟩:=h
 exact ⟨h5,h6⟩
def Ae (x:Int) (d:Nat) (n:Int):Int × Nat :=
 if max (-65536) (min n 65536)<0 then nf x (d+(-(max (-65536) (min n 65536))).toNat) else nf (x*2 ^ (max (-65536) (min n 65536)).toNat) d
def Bg (x:Int) (d den:Nat):Int × Nat:=if d≤den then (x,d) else nf (x / 2 ^ (d - den)) den
theorem AeQ (h:0≤x):sg false (x.natAbs / 2 ^ k)=x / 2 ^ k:=by
 obtain ⟨a,rfl⟩:=jz h
 show ((a / 2 ^ k:Nat):Int)=(a:Int) / 2 ^ k
 simp
theorem OZ (h:x<0) (hc:Ml x.natAbs k=true):sg true (x.natAbs / 2 ^ k+1)=x / 2 ^ k:=by
 obtain ⟨a,ha⟩:∃ a:Nat,x = -(a:Int):=⟨x.natAbs,by omega⟩
 subst ha
 rw [show (-(a:Int)).natAbs=a by omega] at hc ⊢
 unfold Ml at hc
 simp only [decide_eq_true_eq] at hc
 have hp:=ax k
 have e:=dh a (2 ^ k)
 have hm:=eh a hp
 show -((a / 2 ^ k+1:Nat):Int) = -(a:Int) / 2 ^ k
 have ec:((2 ^ k:Nat):Int)=2 ^ k:=by simp
 rw [←ec]
 generalize 2 ^ k=P at *
 have h1 : -(a:Int)=(P:Int)*(-((a / P+1:Nat):Int))+((P - a % P:Nat):Int):=by
  have e3:((P - a % P:Nat):Int)=(P:Int) - ((a % P:Nat):Int):=by omega
  have e4:(a:Int)=(P:Int)*((a / P:Nat):Int)+((a % P:Nat):Int):=by exact_mod_cast e.symm
  rw [e3]
  generalize a / P=u at *
  generalize a % P=v at *
  rw [e4,Int.mul_neg,show ((u+1:Nat):Int)=(u:Int)+1 by omega,Int.mul_add]
  omega
 rw [h1,Int.mul_add_ediv_left _ _ (by omega)]
 rw [Int.ediv_eq_zero_of_lt (by omega) (by omega)]
 omega
theorem Akc (h:x<0) (hc:Ml x.natAbs k=false):sg true (x.natAbs / 2 ^ k)=x / 2 ^ k:=by
 obtain ⟨a,ha⟩:∃ a:Nat,x = -(a:Int):=⟨x.natAbs,by omega⟩
 subst ha
 rw [show (-(a:Int)).natAbs=a by omega] at hc ⊢
 unfold Ml at hc
 simp only [decide_eq_false_iff_not,Decidable.not_not] at hc
 have e:=dh a (2 ^ k)
 rw [hc,bz] at e
 show -((a / 2 ^ k:Nat):Int) = -(a:Int) / 2 ^ k
 have ec:((2 ^ k:Nat):Int)=2 ^ k:=by simp
 rw [←ec]
 have hp:=ax k
 generalize 2 ^ k=P at *
 have e4 : -(a:Int)=(P:Int)*(-((a / P:Nat):Int)):=by
  have:(a:Int)=(P:Int)*((a / P:Nat):Int):=by exact_mod_cast e.symm
  rw [Int.mul_neg,←this]
 rw [e4,Int.mul_ediv_cancel_left _ (by omega)]
theorem Akd {mm x:Nat} (hm:mm<4294967296) (hx:x<4294967296):bits .or .u64 ((mm:Int)*4294967296) (x:Int)=((x+4294967296*mm:Nat):Int):=by
 have h:=Yt (c:=x) (x:=mm) (s:=32) (by omega) hm (by omega)
 rw [show x+4294967296*mm=x+mm*2 ^ 32 by omega,←h]
 have e:((mm:Int)*4294967296)=((mm*2 ^ 32:Nat):Int):=by simp
 rw [e,bits_or_u64_nat _ _ (by omega) (by omega),bits_or_u64_nat _ _ (by omega) (by omega),Nat.or_comm]
theorem Fi (A:Option Addr) (ws:List Nat) (c m:Nat) (w:World) (h:An w m A (w32 ws)) (hc:ws.length≤c) (hl:ws.length≤1000000) :
  Calls prog 161 #[.slice A ws.length c] w fun e w'=>e=.returned (.slice A (HG ws).length c)∧w=w':=by
 have H:=li h
 clear h
 go_enter func161,ntmps161
 go_wp2_with fail
 go_loopw [3] (fun i wr=>AjT w ws i wr) (fun i _=>(intOf i).toNat)
 case atStart=>exact ⟨ws.length,aa _,rfl,rfl,rfl⟩
 case round =>
  obtain ⟨k,hk,rfl,ht,rfl⟩:=hrel
  have HT:=li ht
  clear ht
  by_cases h0:k=0
  ·subst h0
   go_wp2_with fail
   go_ret
   refine ⟨?_,rfl⟩
   rw [Cd,←HT.out]
   rfl
  ·obtain ⟨j,rfl⟩:=ji h0
   obtain ⟨b,off,z,rfl,hbm,hbs,hx,hcc⟩:=H.out.w32_ (k:=j) (by omega)
   have HX:=li hx
   clear hx
   by_cases hz:z=0
   ·subst hz
    go_wp2_with fail
    have e1:Dt ws j=Dt ws ws.length:=by
     rw [←HT.out]
     show Dt ws j=if ws[j]?.getD 0=0 then Dt ws j else j+1
     rw [if_pos (by rw [HX.out];rfl)]
    exact ⟨⟨j,by omega,by go_num,e1,rfl⟩,by simp [intOf];try omega⟩
   ·have hz':((z:Int) == 0)=false:=by simp;omega
    go_wp2_with fail
    go_ret
    refine ⟨?_,rfl⟩
    have e1:j+1=Dt ws ws.length:=by
     rw [←HT.out]
     show j+1=if ws[j]?.getD 0=0 then Dt ws j else j+1
     rw [if_neg (by rw [HX.out];exact hz)]
    rw [Cd,←e1]
    rfl
theorem Aor (h:p:=by
 go_enter func123,ntmps123
 go_wp2_with fail
 go_ret
 exact ⟨rfl,(ab _ w).alloc (aa _) _⟩):p:=h
theorem WT (neg:Bool) (A:Option Addr) (n den c m:Nat) (w:World) (hm:m≤w.heap.size) (h:An w m A (w32 (Ab n))) (hl:(Ab n).length≤100000) (ok:AjX neg n den) :
  Calls prog 123 #[.agg #[.bool neg,.slice A (Ab n).length c,.int .i64 (den:Int)]] w fun e w'=>e=.returned (.bool true)∧Below w.heap.size w w':=by
 by_cases h0:n=0
 ·obtain ⟨rfl,rfl⟩:=ok.zero h0
  subst h0
  rw [AF]
  clear h hl ok
  exact Aor
 ·have hp:=Cj h0
  have ht:=MW h0
  obtain ⟨b,off,z,rfl,q1,q2,hz,g1⟩:=h.w32_ (k:=(Ab n).length - 1) (by omega)
  have hz0:((z:Int) != 0)=true:=by
   rw [hz] at ht
   simp at ht
   simp
   omega
  have g0:w.cell? ⟨b,off,none⟩=some (.int .u32 ((n % 4294967296:Nat):Int)):=by
   obtain ⟨b',off',z',hA,_,_,hz',g'⟩:=h.w32_ (k:=0) hp
   cases hA
   rw [OY h0] at hz'
   cases hz'
   exact g'
  obtain ⟨L,hL⟩:∃ L,L=(Ab n).length - 1:=⟨_,rfl⟩
  obtain ⟨x,hx⟩:∃ x:Nat,x=n % 4294967296:=⟨_,rfl⟩
  have hlen:(Ab n).length=L+1:=by omega
  have hd:=ok.fine
  have ho:=ok.odd
  rw [←hx] at g0
  rw [←hL] at g1
  rw [hlen]
  have hl':L≤100000:=by omega
  have e0:((L:Int)+1 == 0)=false:=by simp;omega
  have hodd:den≠0→(x:Int) % 2=1:=fun hne=>by have:=ho hne;omega
  clear h hl ok ho ht hz hL hx hlen hp h0
  by_cases hden:den=0
  ·subst hden
   clear hodd hd
   exact Aor
  ·have ho:=hodd hden
   have d0:((den:Int) == 0)=false:=by simp;omega
   have d1:decide ((den:Int)≤65536)=true:=decide_eq_true (by omega)
   clear hodd hden
   exact Aor
theorem FK (D:DyR w lo m v x d) (hm:m≤w.heap.size) (hl:(Ab x.natAbs).length≤100000) :
  Calls prog 69 #[v] w fun e w'=>∃ nb A L c,v=.agg #[.bool nb,.slice A L c,.int .i64 (d:Int)]∧e=.returned (.tuple #[.bool nb,.slice A L c,.int .i64 (d:Int)])∧Below w.heap.size w w':=by
 have hok:=AgS D.bound.1 D.bound.2
 have D0:=li D
 obtain ⟨A,c,rfl,h1,h2,h3,h4,h5,h6⟩:=D
 have H3:=li h3
 have HOK:=li hok
 have HL:=li hl
 clear h3 hok hl h6 h4
 obtain ⟨nb,hnb⟩:∃ nb,nb=decide (x<0):=⟨_,rfl⟩
 rw [←hnb] at HOK D0 ⊢
 clear hnb
 have b0:Below w.heap.size w (w.alloc (.cells #[.bool nb,.slice A (Ab x.natAbs).length c,.int .i64 (d:Int)] 43)):=Ao (ab _ _) _
 have r0:=Bz.new_ w [.bool nb,.slice A (Ab x.natAbs).length c,.int .i64 (d:Int)] 43
 go_enter func69,ntmps69
 go_wp2_with fail
 go_at_call 123
 refine (WT nb A x.natAbs d c m _ (by simp;omega) (H3.out.below b0 hm) HL.out HOK.out).mono ?_
 rintro e w1 ⟨rfl,hb⟩
 have s0:=r0.below hb (by simp)
 have b1:=b0.trans (hb.mono (by simp))
 have k0:w1.cell? ⟨w.heap.size,0,none⟩=some (.bool nb):=s0.cell 0
 have k1:w1.cell? ⟨w.heap.size,1,none⟩=some (.slice A (Ab x.natAbs).length c):=s0.cell 1
 have k2:w1.cell? ⟨w.heap.size,2,none⟩=some (.int .i64 (d:Int)):=s0.cell 2
 clear hb r0 b0 s0
 go_wp2_with fail
 go_quiet (fail)
 go_wp2_with fail
 refine bodyPost_ret (v:=.tuple #[.bool nb,.slice A (Ab x.natAbs).length c,.int .i64 (d:Int)]) (by simp [results,results69,go_sem]) rfl ⟨nb,A,_,c,rfl,rfl,below_drewN b1 _⟩
theorem Aos (h:p:=by
 go_enter func55,ntmps55
 go_wp2_with fail
 go_at_call 69
 refine (FK (D0.out.below b0 hm) (by simp;omega) hl).mono ?_
 rintro e w1 ⟨nb',A',L',c',he,rfl,hb⟩
 cases he
 go_wp2_with fail
 go_ret
 exact ⟨by rw [HV.out];rfl,b0.trans (hb.mono (by simp))⟩):p:=h
theorem YD (D:DyR w lo m v x d) (hm:m≤w.heap.size) (hl:(Ab x.natAbs).length≤100000) :
  Calls prog 55 #[v] w fun e w'=>e=.returned (.int .i64 (sgI x))∧Below w.heap.size w w':=by
 obtain ⟨nb,A,L,c,rfl,HD⟩:=D.form
 have D0:=li D
 have b0:Below w.heap.size w (w.alloc (.cells #[.bool nb,.slice A L c,.int .i64 (d:Int)] 43)):=Ao (ab _ _) _
 clear D
 by_cases hx:x=0
 ·have hL:(L:Int)=0:=by have:=HD.out.2.1;rw [hx] at this;simp [AF] at this;omega
  have hLb:((L:Int) == 0)=true:=by rw [hL];rfl
  have HV:=li (show sgI x=0 by unfold sgI;rw [if_pos hx])
  have HL:=li hL
  clear hL hx
  exact Aos
 ·have hL:(L:Int)≠0:=by have:=HD.out.2.1;have h2:=Cj (n:=x.natAbs) (by omega);omega
  have hLb:((L:Int) == 0)=false:=by rw [beq_eq_false_iff_ne];exact hL
  have hnb:=HD.out.1
  cases nb with
  | true =>
   have hx2:x<0:=by simpa using hnb.symm
   have HV:=li (show sgI x = -1 by unfold sgI;rw [if_neg hx,if_pos hx2])
   clear hL hx hnb hx2
   exact Aos
  | false =>
   have hx2:¬ x<0:=by simpa using hnb.symm
   have HV:=li (show sgI x=1 by unfold sgI;rw [if_neg hx,if_neg hx2])
   clear hL hx hnb hx2
   exact Aos
def WV:List Int:=[0,1,28,2,29,14,24,3,30,22,20,15,25,17,4,8,31,27,13,23,21,19,16,7,26,12,18,6,11,5,10,9]
def Ah (w:World):Prop:=0<w.heap.size∧∀ j z,WV[j]?=some z→w.cell? ⟨0,j,none⟩=some (.int .u8 z)
theorem Ah.below (h:Ah w) (hb:Below B w w') (hB:0<B):Ah w' :=
 ⟨aj h.1 hb.size,fun j z hz=>(hb.cell (p:=⟨0,j,none⟩) hB).trans (h.2 j z hz)⟩
theorem Ah.call (h:Ah w) (hb:Below w.heap.size w w'):Ah w':=h.below hb h.1
theorem Ake:∀ k:Nat,k<32→WV[(2 ^ k*125613361 % 4294967296) / 134217728]?=some (k:Int):=by decide
theorem YE:∀ (n:Nat) {x:Nat},0<x→x<2 ^ n→∃ k,k<n∧x % 2 ^ k=0∧x / 2 ^ k % 2=1
 | 0,x,h,h2=>by simp at h2;omega
 | n+1,x,h,h2=>by
  by_cases hx:x % 2=1
  ·exact ⟨0,by omega,Nat.mod_one _,by simpa using hx⟩
  ·obtain ⟨k,hk,h3,h4⟩:=YE n (x:=x / 2) (by omega) (by rw [bg] at h2;omega)
   refine ⟨k+1,by omega,?_,?_⟩
   ·rw [ii,Nat.mod_mul]
    omega
   ·rw [ii,←jy]
    exact h4
theorem AgX {x:Nat} (hk:k<n) (hx:x<2 ^ n) (h1:x % 2 ^ k=0) (h2:x / 2 ^ k % 2=1):x &&& (2 ^ n - x)=2 ^ k:=by
 have hp:=ax k
 have e0:=dh x (2 ^ k)
 have hx0:0<x:=by
  rcases df x with h|h
  ·rw [h] at h2;simp at h2
  ·exact h
 have e:2 ^ n - x=2 ^ n - ((x - 1)+1):=by omega
 rw [e]
 apply Nat.eq_of_testBit_eq
 intro i
 rw [Nat.testBit_and,Nat.testBit_two_pow_sub_succ (by omega),Nat.testBit_two_pow]
 have hdiv:∀ y,y.testBit i=decide (y / 2 ^ i % 2=1):=fun y=>by rw [Nat.testBit_eq_decide_div_mod_eq]
 rw [hdiv,hdiv]
 rcases Nat.lt_trichotomy i k with hik|hik|hik
 ·have hz:x / 2 ^ i % 2=0:=by
   have es:2 ^ k=2 ^ i*(2*2 ^ (k - i - 1)):=by rw [←ii,←bd];congr 1;omega
   have:x=2 ^ i*(2*(2 ^ (k - i - 1)*(x / 2 ^ k))):=by
    rw [h1,bz] at e0
    rw [←ao 2,←ao,←es]
    exact e0.symm
   rw [this,lc _ (ax i)]
   omega
  rw [decide_eq_false (show ¬ x / 2 ^ i % 2=1 by omega),decide_eq_false (show ¬ k=i by omega)]
  rfl
 ·subst hik
  have hq:(x - 1) / 2 ^ i % 2=0:=by
   obtain ⟨q,hq1⟩:∃ q,x / 2 ^ i=q+1:=ji (fun h=>by rw [h] at h2;simp at h2)
   rw [h1,bz,hq1,dg,cr] at e0
   have hxq:x - 1=(2 ^ i - 1)+2 ^ i*q:=by
    generalize 2 ^ i*q=r at *
    omega
   rw [hxq,ig _ _ hp,fk (show 2 ^ i - 1<2 ^ i by omega),bo]
   omega
  rw [decide_eq_true h2,decide_eq_false (show ¬ (x - 1) / 2 ^ i % 2=1 by omega),decide_eq_true hk]
  simp
 ·have hq:(x - 1) / 2 ^ i=x / 2 ^ i:=by
   have hm:0<x % 2 ^ i:=by
    rcases df (x % 2 ^ i) with h|h
    ·exfalso
     have es:2 ^ i=2 ^ k*(2*2 ^ (i - k - 1)):=by rw [←ii,←bd];congr 1;omega
     have e1:=dh x (2 ^ i)
     rw [h,bz,es] at e1
     rw [←e1,ao,lc _ hp,ao] at h2
     omega
    ·exact h
   have e1:=dh x (2 ^ i)
   have hlt:=eh x (ax i)
   have hxq:x - 1=(x % 2 ^ i - 1)+2 ^ i*(x / 2 ^ i):=by omega
   rw [hxq,ig _ _ (ax i),fk (by omega),bo]
  rw [hq,decide_eq_false (show ¬ k=i by omega)]
  by_cases hb:x / 2 ^ i % 2=1
  ·rw [decide_eq_true hb];simp
  ·rw [decide_eq_false hb];rfl
theorem Ma (a b:Nat) (ha:a<4294967296) (hb:b<4294967296):bits .and .u32 (a:Int) (b:Int)=((a &&& b:Nat):Int) :=
 (bits_nat .u32 32 (by decide) (fun n h0 h1=>by rw [jg];omega) a b (by omega) (by omega)).1
theorem Akf (x k:Nat) (w:World) (hx:x<4294967296) (hk:k<32) (h1:x % 2 ^ k=0) (h2:x / 2 ^ k % 2=1) (ht:Ah w) :
  Calls prog 231 #[.int .u32 (x:Int)] w fun e w'=>e=.returned (.int .i64 (k:Int))∧w=w':=by
 have hx0:x≠0:=fun h=>by rw [h] at h2;simp at h2
 have hxb:((x:Int) == 0)=false:=by rw [beq_eq_false_iff_ne];omega
 have ha:=AgX (n:=32) hk (by omega) h1 h2
 obtain ⟨p,hp⟩:∃ p,p=2 ^ k:=⟨_,rfl⟩
 have hneg : -(x:Int) % 4294967296=((4294967296 - x:Nat):Int):=by omega
 have hand:bits .and .u32 (x:Int) (-(x:Int) % 4294967296)=(p:Int):=by
  rw [hneg,Ma x _ hx (by omega),hp]
  exact congrArg _ ha
 obtain ⟨j,hj⟩:∃ j,j=(2 ^ k*125613361 % 4294967296) / 134217728:=⟨_,rfl⟩
 have hjj:(p:Int)*125613361 % 4294967296 / 134217728=(j:Int):=by rw [hj,←hp];omega
 have hj0:j<32:=by rw [hj];omega
 have hj32:(j:Int)<32:=by omega
 have hc:=ht.2 j k (by rw [hj];exact Ake k hk)
 have h0:=ht.1
 have hk32:(k:Int)<256:=by omega
 clear h1 h2 ht ha hp hneg hj hk
 go_enter func231,ntmps231
 go_wp2_with fail
 go_ret
 exact ⟨rfl,rfl⟩
def Akg (n z:Nat):Prop:=n % 2 ^ z=0∧n / 2 ^ z % 2=1
theorem AeR (k:Nat):2 ^ (32*k)=4294967296 ^ k:=by rw [dp]
theorem Akh {x:Nat} (h:Ar a) (h0:Az (a.take k)=0) (hx:a[k]?.getD 0=x) (ht:t<32) (h1:x % 2 ^ t=0) (h2:x / 2 ^ t % 2=1):Akg (Az a) (32*k+t):=by
 refine ⟨?_,?_⟩
 ·rw [bd,Nat.mod_mul,AeR,Na h]
  have e1:Az a % 4294967296 ^ k=0:=by
   have e:=BM (a.take k) (a.drop k)
   rw [ic,h0,bo] at e
   by_cases hk:k≤a.length
   ·rw [ef,eo hk] at e
    rw [e]
    exact Nat.mul_mod_right _ _
   ·rw [gc (by omega)] at e
    rw [e]
    simp [Az]
  rw [e1,El,hx]
  have es:(4294967296:Nat)=2 ^ t*2 ^ (32 - t):=by rw [←bd,show t+(32 - t)=32 by omega]
  rw [es,ao,Nat.add_mul_mod_self_left,h1]
  simp
 ·rw [GO h,show (32*k+t) / 32=k by omega,show (32*k+t) % 32=t by omega,hx]
  exact h2
theorem AgY (h:Akg n z):n≠0:=fun h0=>by
 have:=h.2
 rw [h0] at this
 simp at this
def Aot (a:List Nat) (w:World) (i:Value) (wr:World):Prop:=∃ k:Nat,k≤a.length∧i=.int .i64 (k:Int)∧Az (a.take k)=0∧w=wr
theorem YF (A:Option Addr) (n c m:Nat) (w:World) (hm:m≤w.heap.size) (h:An w m A (w32 (Ab n))) (hl:(Ab n).length≤100000) (ht:Ah w) :
  Calls prog 162 #[.slice A (Ab n).length c] w fun e w'=>(∃ z:Nat,e=.returned (.int .i64 (z:Int))∧(n=0→z=1099511627776)∧(n≠0→Akg n z∧z≤3200000))∧w=w':=by
 have H:=li h
 have HT:=li ht
 clear h ht
 go_enter func162,ntmps162
 go_wp2_with fail
 go_loopw [7] (fun i wr=>Aot (Ab n) w i wr) (fun i _=>(Ab n).length - (intOf i).toNat)
 case atStart=>exact ⟨0,ad _,rfl,rfl,rfl⟩
 case round =>
  obtain ⟨k,hk,rfl,h0,rfl⟩:=hrel
  have H0:=li h0
  clear h0
  by_cases hlt:k<(Ab n).length
  ·obtain ⟨b1,o1,x,rfl,q1,q2,hx,g1⟩:=H.out.w32_ hlt
   have bx:=Ay n x (gM hx)
   have HX:=li (show (Ab n)[k]?.getD 0=x by rw [hx];rfl)
   have ka':(k:Int)<((Ab n).length:Int):=by omega
   have HXX:=li hx
   clear hx
   by_cases hz:x=0
   ·subst hz
    go_wp2_with fail
    refine ⟨⟨k+1,by omega,by go_num,?_,rfl⟩,by simp [intOf];try omega⟩
    rw [AZ,H0.out,HX.out]
    simp
   ·obtain ⟨t,ht,h1,h2⟩:=YE 32 (x:=x) (by omega) (by omega)
    have hz':((x:Int) != 0)=true:=by simp;omega
    have H1:=li h1
    have H2:=li h2
    clear h1 h2
    go_wp2_with (go_at_call 231;refine (Akf x t w bx ht H1.out H2.out HT.out).mono ?_;rintro e w1 ⟨rfl,rfl⟩)
    go_ret
    have hhit:=Akh (Ay n) H0.out HX.out ht H1.out H2.out
    rw [Am] at hhit
    refine ⟨⟨32*k+t,?_,fun hn=>absurd hn (AgY hhit),fun _=>⟨hhit,by omega⟩⟩,rfl⟩
    have:((32*k+t:Nat):Int)=32*(k:Int)+(t:Int):=by omega
    rw [this]
    rfl
  ·have hle:¬ (k:Int)<((Ab n).length:Int):=by omega
   go_wp2_with fail
   go_ret
   refine ⟨⟨1099511627776,rfl,fun _=>rfl,fun hn=>?_⟩,rfl⟩
   exfalso
   have:=H0.out
   rw [al (by omega),Am] at this
   exact hn this
theorem Vd (A:Option Addr) (a:List Nat) (c i m:Nat) (w:World) (h:An w m A (w32 a)) (hi:i≤1000000) (hl:a.length≤1000000) :
  Calls prog 163 #[.slice A a.length c,.int .i64 (i:Int)] w fun e w'=>e=.returned (.int .u32 ((a[i]?.getD 0:Nat):Int))∧w=w':=by
 by_cases hlt:i<a.length
 ·obtain ⟨b1,o1,x,rfl,q1,q2,hx,g1⟩:=h.w32_ hlt
  have hil:(i:Int)<(a.length:Int):=by omega
  have HX:=li (show a[i]?.getD 0=x by rw [hx];rfl)
  clear hx h
  go_enter func163,ntmps163
  go_wp2_with fail
  go_ret
  exact ⟨by rw [HX.out];rfl,rfl⟩
 ·have hil:¬ (i:Int)<(a.length:Int):=by omega
  have HX:=li (show a[i]?.getD 0=0 by rw [dn (by omega)];rfl)
  clear h
  go_enter func163,ntmps163
  go_wp2_with fail
  go_ret
  exact ⟨by first|rfl|(rw [HX.out];rfl),rfl⟩
theorem Gp:prog.underlying 112=some (.slice 126):=by kernel_rfl
theorem Dw.put (h:Dw w base (.slice (some ⟨g,0,none⟩) n c) xs) (hn:n=xs.length) (j z:Nat):Dw (w.setCell ⟨g,j,none⟩ (.int .u32 (z:Int))) base (.slice (some ⟨g,0,none⟩) n c) (xs.set j z):=by
 subst hn
 have e:w32 (xs.set j z)=(w32 xs).set j (.int .u32 (z:Int)):=by simp [w32,fo]
 have h2:w.ownsRow base 126 1 (.slice (some ⟨g,0,none⟩) xs.length c) xs.length (w32 xs):=h
 have h3:=(World.ownsRow.stored h2 j (.int .u32 (z:Int))).1
 unfold Dw
 rw [e,bt]
 exact h3
theorem Dw.cellA {j:Nat} (h:Dw w base (.slice (some ⟨g,0,none⟩) n c) xs) (hz:xs[j]?=some z):w.cell? ⟨g,j,none⟩=some (.int .u32 (z:Int)):=by
 obtain ⟨A',c',he,_,hc⟩:=h.view
 cases he
 have hj:j<xs.length:=(gS.1 hz).1
 obtain ⟨b,off,z',hA,_,_,hx,hcc⟩:=hc.w32_ hj
 cases hA
 rw [hz] at hx
 cases hx
 simpa using hcc
theorem Dw.freeA (h:Dw w base (.slice (some ⟨g,0,none⟩) n c) xs) (hn:n=xs.length) (j:Nat):w.frozen? ⟨g,j,none⟩=false:=by
 subst hn
 have h2:w.ownsRow base 126 1 (.slice (some ⟨g,0,none⟩) xs.length c) xs.length (w32 xs):=h
 exact World.ownsRow.frozenAt h2 j
theorem YG {w2:World} (h:w2.ownsRow base 126 1 (.slice (some ⟨g,0,none⟩) L L) L (madeCells (Value.int .u32 0).cells (L*1)).toList):Dw w2 base (.slice (some ⟨g,0,none⟩) L L) (List.replicate L 0):=by
 have e1:w32 (List.replicate L 0)=(madeCells (Value.int .u32 0).cells (L*1)).toList:=by
  rw [cr]
  have:=toList_madeCells_one (Value.int .u32 0) L
  simp only [w32,List.map_replicate]
  exact this.symm
 unfold Dw
 rw [e1,gg]
 exact h
theorem YH (hl:os.length=k) (hk:k<L):(os++List.replicate (L - k) 0).set k z=(os++[z])++List.replicate (L - (k+1)) 0:=by
 rw [List.set_append_right _ _ (by omega),hl,ei,show L - k=(L - (k+1))+1 by omega,jx,bk]
 simp
def Aou (w:World) (a:List Nat) (n q g L:Nat) (i:Value) (wr:World):Prop :=
 ∃ (k:Nat) (os:List Nat),k≤L∧i=.int .i64 (k:Int)∧Dw wr w.heap.size (.slice (some ⟨g,0,none⟩) L L) (os++List.replicate (L - k) 0)∧os.length=k∧Ar os∧Az os=Az a / 2 ^ n % 4294967296 ^ k∧Below w.heap.size w wr
theorem ze4f (h:p:=by
 rw [hol] at hcall
 have HCALL:=li hcall
 clear hkL hol hO hcall
 go_wp2_with (go_at_call 161;refine HCALL.out.mono ?_;rintro e w3 ⟨rfl,rfl⟩)
 go_ret
 have hcan:=Cz HOK.out
 rw [HWV.out] at hcan
 refine ⟨some ⟨g,0,none⟩,L,by rw [hcan];rfl,by simp,?_,?_,hb⟩
 ·rw [←hcan,Cd]
  have:=Ea os os.length
  have:=HOL.out
  omega
 ·rw [←hcan]
  exact HGC.out.takeW _):p:=h
theorem WW (A:Option Addr) (a:List Nat) (c n m:Nat) (w:World) (hm:m≤w.heap.size) (h1:An w m A (w32 a)) (ha:Ar a) (l1:a.length≤100000) (hn:n≤1000000) :
  Calls prog 72 #[.slice A a.length c,.int .i64 (n:Int)] w fun e w' =>
   ∃ G g,e=.returned (.slice G (Ab (Az a / 2 ^ n)).length g)∧(G=none→g=0)∧(Ab (Az a / 2 ^ n)).length≤g∧An w' w'.heap.size G (w32 (Ab (Az a / 2 ^ n)))∧Below w.heap.size w w':=by
 have H1:=li h1
 have HA:=li ha
 obtain ⟨q,hq⟩:∃ q,q=n / 32:=⟨_,rfl⟩
 have hqi:(n:Int) / 32=(q:Int):=by omega
 have HQ:=li hq
 clear h1 ha
 by_cases hbig:a.length≤q
 ·have hz:Ab (Az a / 2 ^ n)=[]:=by
   have hl:=BE HA.out
   rw [←AeR] at hl
   rw [fk (aj hl (ap (by decide) (by omega))),AF]
  have HZ:=li hz
  have hbi:(a.length:Int)≤(q:Int):=by omega
  clear hz hq
  go_enter func72,ntmps72
  go_wp2_with fail
  go_ret
  exact ⟨none,0,by rw [HZ.out];rfl,fun _=>rfl,by rw [HZ.out];exact aa _,by rw [HZ.out];exact An.nil_,ab _ _⟩
 ·obtain ⟨L,hL⟩:∃ L,L=a.length - q:=⟨_,rfl⟩
  have hLi:(a.length:Int) - (q:Int)=(L:Int):=by omega
  have hbi:¬ (a.length:Int)≤(q:Int):=by omega
  have hL6:L≤100000:=by omega
  have HL:=li hL
  obtain ⟨i0,hi,hz0,hz1,hz2⟩:=info_parts Qe
  clear hbig hq hL
  go_enter func72,ntmps72
  go_wp2_with (with_reducible refine wpList_make_full _ rfl (.tmp 22) (.tmp 22) 112 rfl w.heap.size 126 i0 (.int .u32 0) 1 Gp hi hz0 hz1 .i64 .i64 _ _ L rfl rfl rfl rfl (by rw [hz2];omega) (by unfold maxLen;omega) (aa _) ?_;intro w2 hown hg)
  have hst:=(ab w.heap.size w).grown hg (aa _) (fun k h=>by simp at h)
  have hown2:=YG hown
  obtain ⟨g,hg1⟩:∃ g,g=w.heap.size:=⟨_,rfl⟩
  have hgw:=li hg1
  rw [←hg1]
  rw [show Dw w2 w.heap.size (.slice (some ⟨w.heap.size,0,none⟩) L L) (List.replicate L 0)=Dw w2 w.heap.size (.slice (some ⟨g,0,none⟩) L L) (List.replicate L 0) by rw [hg1]] at hown2
  clear hown hg hi hz0 hz1 hz2 hg1
  go_loopw [26] (fun i wr=>Aou w a n q g L i wr) (fun i _=>L - (intOf i).toNat)
  case atStart=>exact ⟨0,[],ad _,rfl,by simpa using hown2,rfl,by simp [Ar],by simp [Az,Nat.mod_one],hst⟩
  case round =>
   as_aux_lemma =>
   obtain ⟨k,os,hk,rfl,hown,hol,hok,hv,hb⟩:=hrel
   have HO:=li hown
   have HOL:=li hol
   have HOK:=li hok
   have HV:=li hv
   have hsz:=hb.size
   have hlen:=li (show L=(os++List.replicate (L - k) 0).length by simp;omega)
   clear hown hol hok hv hown2 hst
   by_cases hlt:k<L
   ·as_aux_lemma =>
    obtain ⟨u,hu⟩:∃ u,u=q+k:=⟨_,rfl⟩
    have hul:u<a.length:=by have:=HL.out;omega
    obtain ⟨b1,o1,x,rfl,q1,_,hx,g1'⟩:=H1.out.w32_ hul
    have g1:=(hb.cell (p:=⟨b1,o1+u,none⟩) (aj q1 hm)).trans g1'
    have bx:=HA.out x (gM hx)
    have HX:=li (show a[n / 32+k]?.getD 0=x by rw [←HQ.out,←hu,hx];rfl)
    obtain ⟨y,hy⟩:∃ y,y=a[u+1]?.getD 0:=⟨_,rfl⟩
    have HYU:=li hy
    have HY:=li (show a[n / 32+k+1]?.getD 0=y by rw [←HQ.out,←hu,hy])
    have by':y<4294967296:=by
     rw [hy]
     by_cases hyl:u+1<a.length
     ·rw [gE hyl];exact HA.out _ (fj hyl)
     ·rw [dn (by omega)];decide
    have w1:IntKind.i64.wrap ((k:Int)+(q:Int))=(u:Int):=by rw [gh];omega
    have w2':IntKind.i64.wrap ((u:Int)+1)=((u+1:Nat):Int):=by rw [gh];omega
    have w3:IntKind.u64.wrap ((y:Int)*4294967296)=(y:Int)*4294967296:=by rw [et];omega
    obtain ⟨s,hs⟩:∃ s,s=x+4294967296*y:=⟨_,rfl⟩
    have hor:bits .or .u64 ((y:Int)*4294967296) (x:Int)=(s:Int):=by rw [hs];exact Akd by' bx
    obtain ⟨z,hzn⟩:∃ z:Nat,z=(x+y*4294967296) / 2 ^ (n % 32) % 4294967296:=⟨_,rfl⟩
    have hz:((s:Int) / 2 ^ (n % 32) % 4294967296)=(z:Int):=by rw [hzn,hs,aq 4294967296 y];simp
    have HZ:=li (show z=(a[n / 32+k]?.getD 0+a[n / 32+k+1]?.getD 0*4294967296) / 2 ^ (n % 32) % 4294967296 by rw [HX.out,HY.out];exact hzn)
    have HZB:=li (show z<4294967296 by rw [hzn];exact eh _ (by decide))
    have hul':(u:Int)<(a.length:Int):=by omega
    have hkl':(k:Int)<(L:Int):=by omega
    have hat:=fun nq=>Vd (some ⟨b1,o1,none⟩) a c (u+1) m (wr.drewN nq) (H1.out.below (below_drewN hb nq) hm) (by omega) (by omega)
    rw [←hy] at hat
    have HAT:=li hat
    have f1:wr.cell? ⟨g,k,none⟩=some (.int .u32 0):=by
     have:=HO.out.cellA (j:=k) (z:=0) (by rw [du (by rw [HOL.out];omega),HOL.out,ei];rw [kc];simp;omega)
     simpa using this
    have f2:∀ j,wr.frozen? ⟨g,j,none⟩=false:=fun j=>HO.out.freeA hlen.out j
    clear hy hx hs hzn hu g1' hat
    go_wp2_with fail
    go_quiet ((go_at_call 163;exact WS (HAT.out _)))
    go_wp2_with fail
    refine ⟨⟨k+1,os++[z],by omega,by go_num,?_,by rw [ak,HOL.out];rfl,Cb HOK.out HZB.out,Yx HA.out HOL.out HV.out HZ.out,?_⟩,by simp [intOf];omega⟩
    ·have h5:=((HO.out.drewN nq).put hlen.out k z)
     rw [YH HOL.out hlt] at h5
     exact h5
    ·exact (below_drewN hb nq).setCell (by have:=hgw.out;simp;omega) _
   ·as_aux_lemma =>
    have hkL:k=L:=by omega
    have hle:¬ (k:Int)<(L:Int):=by omega
    have hO:=HO.out
    rw [hkL,ei,List.replicate_zero,az] at hO
    have hol:=HOL.out.trans hkL
    have hL6':os.length≤1000000:=by omega
    have HWV:=li (AeO (k:=k) HA.out (by have:=HQ.out;have:=HL.out;omega) HV.out)
    have HGC:=li hO.cap_.2.2.2
    have hcall:=Fi (some ⟨g,0,none⟩) os os.length wr.heap.size wr HGC.out (aa _) hL6'
    exact ze4f
theorem Ve {l:Nat} (hc:c<2 ^ r) (hl:l<4294967296) (hr:r≤32) (hd:l % 2 ^ r=0):bits .or .u32 (c:Int) (l:Int)=((c+l:Nat):Int)∧c+l<4294967296:=by
 have hp:=ax r
 have e0:=dh l (2 ^ r)
 rw [hd,bz] at e0
 have h32:2 ^ r*2 ^ (32 - r)=4294967296:=by rw [←bd,show r+(32 - r)=32 by omega]
 have hq:l / 2 ^ r<2 ^ (32 - r):=(ij hp).2 (by rw [aq];omega)
 have hs:c+l<4294967296:=by
  have h1:2 ^ r*(l / 2 ^ r+1)≤2 ^ r*2 ^ (32 - r):=gb _ hq
  rw [h32,dg,e0] at h1
  omega
 refine ⟨?_,hs⟩
 have hc32:c<4294967296:=by omega
 rw [(bits_nat .u32 32 (by decide) (fun n h0 h1=>by rw [jg];omega) c l (by omega) (by omega)).2]
 have h:=Nat.two_pow_add_eq_or_of_lt hc (l / 2 ^ r)
 rw [e0] at h
 rw [Nat.or_comm,←h,Nat.add_comm]
theorem AeS {x:Nat} (hr:r≤32):(x*2 ^ r) % 4294967296 % 2 ^ r=0:=by
 have h32:(4294967296:Nat)=2 ^ r*2 ^ (32 - r):=by rw [←bd,show r+(32 - r)=32 by omega]
 rw [h32,Nat.mod_mul_right_mod,Nat.mul_mod_left]
theorem Acu {pre:List Nat} {u:Nat} (hu:pre.length=u) (hm:0<m):((pre++cy::List.replicate m 0).set u z).set (u+1) c'=(pre++[z])++c'::List.replicate (m - 1) 0:=by
 subst hu
 obtain ⟨j,rfl⟩:∃ j,m=j+1:=⟨m - 1,by omega⟩
 simp [List.set_append,jx]
def Aki (w:World) (a:List Nat) (q p g L:Nat) (i:Value) (wr:World):Prop :=
 ∃ (k:Nat) (os:List Nat) (cy:Nat),k≤a.length∧i=.int .i64 (k:Int)∧Dw wr w.heap.size (.slice (some ⟨g,0,none⟩) L L) (os++cy::List.replicate (a.length - k) 0)∧os.length=q+k∧Ar os∧cy<p ∧
  Az os+4294967296 ^ (q+k)*cy=Az (a.take k)*(4294967296 ^ q*p)∧Below w.heap.size w wr
theorem Akj (h:p:=by
 go_enter func70,ntmps70
 go_wp2_with fail
 go_ret
 exact ⟨A,c,by rw [HE.out];rfl,hcc,by rw [HE.out];exact hcap,by rw [HE.out];exact H1.out.more hm,ab _ _⟩):p:=h
theorem YI (A:Option Addr) (n0:Nat) (c n m:Nat) (w:World) (hm:m≤w.heap.size) (h1:An w m A (w32 (Ab n0))) (hcc:A=none→c=0) (hcap:(Ab n0).length≤c) (l1:(Ab n0).length≤100000) (hn:n≤1000000) :
    Calls prog 70 #[.slice A (Ab n0).length c,.int .i64 (n:Int)] w fun e w' =>
      ∃ G g,e=.returned (.slice G (Ab (n0*2 ^ n)).length g)∧(G=none→g=0)∧(Ab (n0*2 ^ n)).length≤g∧An w' w'.heap.size G (w32 (Ab (n0*2 ^ n)))∧Below w.heap.size w w':=by
  by_cases hz:n=0∨(Ab n0).length=0
  · have he:Ab (n0*2 ^ n)=Ab n0:=by
      rcases hz with h|h
      · rw [h];simp
      · have:n0=0:=by
          rcases df n0 with h2|h2
          · exact h2
          · have:=Cj (n:=n0) (by omega);omega
        rw [this];simp
    have HE:=li he
    have H1:=li h1
    clear he h1
    by_cases hn0:n=0
    · subst hn0
      clear hz
      exact Akj
    · have hlz:(((Ab n0).length:Nat):Int)=0:=by rcases hz with h|h <;> omega
      have hlb:((((Ab n0).length:Nat):Int) == 0)=true:=by rw [hlz];rfl
      have hnb:((n:Int) == 0)=false:=by rw [beq_eq_false_iff_ne];omega
      have HLZ:=li hlz
      clear hz hlz
      exact Akj
  · obtain ⟨a,ha'⟩:∃ a,a=Ab n0:=⟨_,rfl⟩
    have ha:Ar a:=by rw [ha'];exact Ay n0
    have hv0:Az a=n0:=by rw [ha',Am]
    rw [←ha'] at h1 hcap l1 hz ⊢
    rw [←hv0]
    have hlb:(((a.length:Nat):Int) == 0)=false:=by rw [beq_eq_false_iff_ne];omega
    have hnb:((n:Int) == 0)=false:=by rw [beq_eq_false_iff_ne];omega
    clear hv0 ha' hz
    rw [MZ n]
    obtain ⟨q,hq⟩:∃ q,q=n / 32:=⟨_,rfl⟩
    obtain ⟨p,hp⟩:∃ p,p=2 ^ (n % 32):=⟨_,rfl⟩
    have hp0:0<p:=by rw [hp];exact ax _
    have hp32:p≤2147483648:=by
      rw [hp]
      exact ap (n := 2) (by decide) (show n % 32 ≤ 31 by omega)
    rw [←hq,←hp]
    have HP:=li hp
    have H1:=li h1
    have HA:=li ha
    have hqi:(n:Int) / 32=(q:Int):=by omega
    have hq6:q≤31250:=by omega
    obtain ⟨L,hL⟩:∃ L,L=a.length+q+1:=⟨_,rfl⟩
    have hLi:(a.length:Int)+(q:Int)+1=(L:Int):=by omega
    have hL6:L≤200000:=by omega
    have HL:=li hL
    obtain ⟨i0,hi,hz0,hz1,hz2⟩:=info_parts Qe
    clear h1 ha hp hq hL
    go_enter func70,ntmps70
    go_wp2_with (with_reducible refine wpList_make_full _ rfl (.tmp 28) (.tmp 28) 112 rfl w.heap.size 126 i0 (.int .u32 0) 1 Gp hi hz0 hz1 .i64 .i64 _ _ L rfl rfl rfl rfl (by rw [hz2];omega) (by unfold maxLen;omega) (aa _) ?_;intro w2 hown hg)
    have hst:=(ab w.heap.size w).grown hg (aa _) (fun k h=>by simp at h)
    have hown2:=YG hown
    obtain ⟨g,hg1⟩:∃ g,g=w.heap.size:=⟨_,rfl⟩
    have hgw:=li hg1
    rw [←hg1]
    rw [show Dw w2 w.heap.size (.slice (some ⟨w.heap.size,0,none⟩) L L) (List.replicate L 0)=Dw w2 w.heap.size (.slice (some ⟨g,0,none⟩) L L) (List.replicate L 0) by rw [hg1]] at hown2
    have hinit:List.replicate L 0=List.replicate q 0++0::List.replicate a.length 0:=by
      rw [HL.out,show a.length+q+1=q+(a.length+1) by omega,←List.replicate_append_replicate,jx]
    rw [hinit] at hown2
    clear hown hg hi hz0 hz1 hz2 hg1 hinit hLi
    go_loopw [32] (fun i wr=>Aki w a q p g L i wr) (fun i _=>a.length - (intOf i).toNat)
    case atStart=>exact ⟨0,List.replicate q 0,0,ad _,rfl,hown2,by simp,MY q,hp0,by simp [Eq,Az],hst⟩
    case round =>
      as_aux_lemma =>
      obtain ⟨k,os,cy,hk,rfl,hown,hol,hok,hcy,hv,hb⟩:=hrel
      have HO:=li hown
      have HOL:=li hol
      have HOK:=li hok
      have HV:=li hv
      have HCY:=li hcy
      have hsz:=hb.size
      have hlen := li (show L = (os ++ cy :: List.replicate (a.length - k) 0).length by have := HL.out; simp; omega)
      clear hown hol hok hv hown2 hst hcy
      by_cases hlt:k<a.length
      · as_aux_lemma =>
        obtain ⟨u,hu⟩:∃ u,u=k+q:=⟨_,rfl⟩
        have huu:(k:Int)+(q:Int)=(u:Int):=by omega
        have HU:=li hu
        have huL:(u:Int)+1<(L:Int):=by have:=HL.out;omega
        obtain ⟨b1,o1,x,rfl,q1,_,hx,g1'⟩:=H1.out.w32_ hlt
        have g1:=(hb.cell (p:=⟨b1,o1+k,none⟩) (aj q1 hm)).trans g1'
        have bx:=HA.out x (gM hx)
        have HX := li (show a[k]?.getD 0 = x by rw [hx]; rfl)
        have hr31:n % 32≤31:=by omega
        obtain ⟨t,ht⟩:∃ t,t=x*p:=⟨_,rfl⟩
        have htb:t<9223372036854775808:=by
          rw [ht]
          have:x*p≤4294967295*2147483648:=ep (by omega) hp32
          omega
        have hT:IntKind.u64.wrap ((x:Int)*2 ^ (n % 32))=(t:Int):=by
          have e1:(x:Int)*2 ^ (n % 32)=((x*2 ^ (n % 32):Nat):Int):=by simp
          rw [e1,←HP.out,←ht,et]
          omega
        obtain ⟨lw,hlw⟩:∃ lw,lw=t % 4294967296:=⟨_,rfl⟩
        have hlwi:(t:Int) % 4294967296=(lw:Int):=by omega
        obtain ⟨c',hc'⟩:∃ c',c'=t / 4294967296:=⟨_,rfl⟩
        have hci:(t:Int) / 4294967296=(c':Int):=by omega
        have hcb:c'<4294967296:=by omega
        have hcp:=Yu HCY.out bx
        have hor:=Ve (c:=cy) (l:=lw) (r:=n % 32) (by rw [←HP.out];exact HCY.out) (by omega) (by omega) (by rw [hlw,ht,HP.out];exact AeS (by omega))
        have hor1:=hor.1
        obtain ⟨z,hzn⟩:∃ z,z=cy+lw:=⟨_,rfl⟩
        rw [←hzn] at hor1
        have HZB := li (show z < 4294967296 by rw [hzn]; exact hor.2)
        have HZ := li (show z + 4294967296 * c' = cy + x * p by rw [hzn, hlw, hc', ← ht]; omega)
        have HCP := li (show c' < p by
          have h5:=HZ.out
          have h6:=HZB.out
          have h7:(cy+x*p) / 4294967296=c':=by omega
          rw [←h7]
          exact hcp)
        have f1:wr.cell? ⟨g,u,none⟩=some (.int .u32 (cy:Int)):=HO.out.cellA (by rw [du (by rw [HOL.out,hu];omega),HOL.out,hu,show k+q - (q+k)=0 by omega];rfl)
        have f2:∀ j,wr.frozen? ⟨g,j,none⟩=false:=fun j=>HO.out.freeA hlen.out j
        have f3:wr.cell? ⟨g,u+1,none⟩=some (.int .u32 0):=by
          have:=HO.out.cellA (j:=u+1) (z:=0) (by
            rw [du (by rw [HOL.out,hu];omega),HOL.out,hu,show k+q+1 - (q+k)=0+1 by omega,ew,kc,if_pos (by omega)])
          simpa using this
        have hgne:g<wr.heap.size:=(World.ownsRow.lt HO.out g rfl).2
        have hbg:b1≠g:=by have:=hgw.out;omega
        clear hx g1' ht hlw hc' hcp hor hzn hu
        go_wp2_with fail
        refine ⟨⟨k+1,os++[z],c',by omega,by go_num,?_,by rw [ak,HOL.out];rfl,Cb HOK.out HZB.out,HCP.out,Yv HOL.out HX.out HV.out HZ.out,?_⟩,by simp [intOf];omega⟩
        · have h5:=((HO.out.put hlen.out u z).put (by rw [bt];exact hlen.out) (u+1) c')
          rw [Acu (by rw [HOL.out,HU.out];omega) (by omega),show a.length - k - 1=a.length - (k+1) by omega] at h5
          exact h5
        · exact (hb.setCell (by have:=hgw.out;simp;omega) _).setCell (by have:=hgw.out;simp;omega) _
      · as_aux_lemma =>
        have hkL:k=a.length:=by omega
        have hle:¬ (k:Int)<(a.length:Int):=by omega
        have hO:=HO.out
        rw [hkL,ei,List.replicate_zero] at hO
        obtain ⟨ws,hws⟩:∃ ws,ws=os++[cy]:=⟨_,rfl⟩
        rw [←hws] at hO
        have hwl:ws.length=L:=by rw [hws,ak,HOL.out,HL.out,hkL];simp;omega
        have hwok:Ar ws:=by rw [hws];exact Cb HOK.out (by have:=HCY.out;omega)
        have hwv:Az ws=Az a*(4294967296 ^ q*p):=by
          have hv:=HV.out
          rw [al (by omega)] at hv
          rw [hws,BM,HOL.out,←hv]
          simp only [Az,Nat.mul_zero,bz]
        have hcall:=Fi (some ⟨g,0,none⟩) ws ws.length wr.heap.size wr hO.cap_.2.2.2 (aa _) (by omega)
        have HGC:=li hO.cap_.2.2.2
        rw [hwl] at hcall
        have HCALL:=li hcall
        have HWO:=li hwok
        have HWV:=li hwv
        have HWL:=li hwl
        clear hkL hO hws hwl hwok hwv hcall
        go_wp2_with (go_at_call 161;refine HCALL.out.mono ?_;rintro e w3 ⟨rfl,rfl⟩)
        go_ret
        have hcan:=Cz HWO.out
        rw [HWV.out] at hcan
        refine ⟨some ⟨g,0,none⟩,L,by rw [hcan];rfl,by simp,?_,?_,hb⟩
        · rw [←hcan,Cd]
          have:=Ea ws ws.length
          have:=HWL.out
          omega
        · rw [←hcan]
          exact HGC.out.takeW _
theorem LM {P:Program} {t t2 e e2:TypeId} (ht:P.underlying t=some (.slice e)) (ht2:P.underlying t2=some (.slice e2)) (ty:TypeId) (s x:Value) (w:World) :
  (Builtin.append_ #[t,t2] ty #[s,x]).run P w=(Builtin.append_ #[t,t] ty #[s,x]).run P w:=by
 cases s with
 | slice base sl sc=>simp [Builtin.append_,run_underlying ht,run_underlying ht2]
 | _=>simp [Builtin.append_,run_underlying ht]
theorem YJ {a:Act} (hgd:o.guard=none) (s x:Operand)
  (ho:o.op=.call { callee:=.builtin .append,args:=#[s,x],argTypes:=#[41,112] })
  (base:Nat) (v:Value) (xs ys:List Nat) (A:Option Addr) (c m:Nat) (hs:a.eval s=v) (hown:Dw w base v xs) (hx:a.eval x=.slice A ys.length c) (hn:A=none→c=0) (hc:An w m A (w32 ys))
  (hlen:xs.length+ys.length≤1000000) (hbase:base≤w.heap.size)
  (h:∀ v' w',Dw w' base v' (xs++ys)→Below base w w'→wpList prog ops Q rest (a.put o.dst v') w'):wpList prog ops Q (o::rest) a w:=by
 obtain ⟨i0,hi,hz0,hz1,hz2⟩:=info_parts AeN
 rcases A with _|⟨b,off,l⟩
 ·have hy:ys=[]:=by
   rcases ys with _|⟨y,ys⟩
   ·rfl
   ·obtain ⟨b,off,hA,_⟩:=hc (by simp [w32])
    cases hA
  subst hy
  have hc0:=hn rfl
  subst hc0
  refine wpList_plain hgd fun K hK=>?_
  have hrun:=run_append_owned_none (P:=prog) (w:=w) base 41 o.type 126 i0 1 HH hi v xs.length (w32 xs) hown
  rw [←LM HH Gp] at hrun
  have hx':a.eval x=.slice none 0 0:=hx
  unfold Oper.wp
  simp only [execOp,ho,resolve,invoke,builtin,ah,bu,au,List.map_toArray,bp,List.map_nil,hs,hx',hrun]
  exact hK _ _ (h v w (by rw [az];exact hown) (ab _ _))
 ·have hcell:∀ j u,(w32 ys)[j]?=some u→w.cell? ((⟨b,off,l⟩:Addr).add j)=some u:=by
   intro j u hu
   exact ze8f
  have hone:∀ u∈w32 ys,u.oneCell'=true:=by
   intro u hu
   obtain ⟨z,_,rfl⟩:=List.mem_map.1 hu
   rfl
  obtain ⟨v',w',hr,h2,h3,h4⟩:=run_append_own (P:=prog) w base 41 o.type 126 i0 (.int .u32 0) 1 4 HH hi hz0 hz1 hz2 rfl (by decide) v xs.length (w32 xs) hown ⟨b,off,l⟩ ys.length c (w32 ys) (by simp [w32]) hcell hone (by unfold maxLen;omega) (by omega) hbase
  rw [←LM HH Gp] at hr
  refine wpList_plain hgd fun K hK=>?_
  unfold Oper.wp
  simp only [execOp,ho,resolve,invoke,builtin,ah,bu,au,List.map_toArray,bp,List.map_nil,hs,hx,hr]
  refine hK _ _ (h v' w' ?_ ((ab base w).grown h3 hbase (fun g hg=>(World.ownsRow.lt hown g hg).1)))
  have e:w32 (xs++ys)=w32 xs++w32 ys:=by simp [w32]
  unfold Dw
  rw [e,ak]
  exact h2
theorem ze9f (h:p:=by
 go_wp2_with fail
 go_quiet (fail)
 go_wp2_with fail
 go_quiet (fail)
 go_wp2_with fail
 go_ret
 exact ⟨by rw [HV.out];rfl,by repeat (first|exact ab _ _|refine Ry ?_ _)⟩):p:=h
theorem Akk (h:p:=by
 clear hab hl hlt
 go_enter func57,ntmps57
 go_wp2_with fail
 go_ret
 exact ⟨by rw [HV.out];rfl,ab _ _⟩):p:=h
theorem TM (A B:Option Addr) (a b:Nat) (c1 c2 m:Nat) (w:World) (h1:An w m A (w32 (Ab a))) (h2:An w m B (w32 (Ab b))) (l1:(Ab a).length≤100000) (l2:(Ab b).length≤100000) :
  Calls prog 57 #[.slice A (Ab a).length c1,.slice B (Ab b).length c2] w fun e w'=>e=.returned (.int .i64 (sgI ((a:Int) - (b:Int))))∧Below w.heap.size w w':=by
 have H1:=li h1
 have H2:=li h2
 clear h1 h2
 by_cases hl:(Ab a).length=(Ab b).length
 ·have HL:=li hl
  have e1:(((Ab a).length:Int) != ((Ab b).length:Int))=false:=by simp;omega
  clear hl
  go_enter func57,ntmps57
  go_wp2_with fail
  go_loopw [5] (fun i wr=>AjV w (Ab a) (Ab b) i wr) (fun i _=>(intOf i+1).toNat)
  case atStart=>exact ⟨(Ab a).length,0,aa _,rfl,by rw [gi,HL.out,gi],rfl⟩
  case round =>
   as_aux_lemma =>
   obtain ⟨k,nq,hk,rfl,hd,rfl⟩:=hrel
   have HD:=li hd
   clear hd
   by_cases h0:k=0
   ·subst h0
    go_wp2_with fail
    go_ret
    refine ⟨?_,below_drewN (ab _ _) _⟩
    have:=HD.out
    simp at this
    have hab:a=b:=by rw [←Am a,←Am b,this]
    subst hab
    have:sgI ((a:Int) - (a:Int))=0:=by rw [Int.sub_self];rfl
    rw [this]
    rfl
   ·obtain ⟨j,rfl⟩:=ji h0
    obtain ⟨b1,o1,x,rfl,_,_,hx,g1⟩:=H1.out.w32_ (k:=j) (by omega)
    obtain ⟨b2,o2,y,rfl,_,_,hy,g2⟩:=H2.out.w32_ (k:=j) (by have:=HL.out;omega)
    have HX:=li hx
    have HY:=li hy
    have hj:((j.succ:Nat):Int) - 1=(j:Int):=by omega
    have hja:(j:Int)<((Ab a).length:Int):=by omega
    have hjb:(j:Int)<((Ab b).length:Int):=by have:=HL.out;omega
    rw [hj]
    clear hx hy h0
    by_cases hxy:x=y
    ·subst hxy
     have e2:((x:Int) != (x:Int))=false:=by simp
     go_wp2_with fail
     go_quiet (fail)
     go_wp2_with fail
     exact ⟨⟨j,_,by omega,by go_num,RF HX.out HY.out HD.out,rfl⟩,by simp [intOf];try omega⟩
    ·have e2:((x:Int) != (y:Int))=true:=by simp;omega
     have hla:=Yp (Ay a) (Ay b) HX.out HY.out HD.out hxy
     rw [Am,Am] at hla
     by_cases hlt:x<y
     ·have e3:decide ((x:Int)<(y:Int))=true:=decide_eq_true (by omega)
      have hab:a<b:=by rw [decide_eq_true hlt] at hla;simpa using hla
      have HV:=li (show sgI ((a:Int) - (b:Int)) = -1 by unfold sgI;rw [if_neg (by omega),if_pos (by omega)])
      clear hla hab hxy
      exact ze9f
     ·have e3:decide ((x:Int)<(y:Int))=false:=decide_eq_false (by omega)
      have hab:¬ a<b:=by rw [decide_eq_false hlt] at hla;simpa using hla
      have hba:b<a:=by
       rcases cn b a with h|h
       ·exact h
       ·exfalso
        have:a=b:=by omega
        subst this
        have:=HX.out.symm.trans HY.out
        simp at this
        exact hxy this
      have HV:=li (show sgI ((a:Int) - (b:Int))=1 by unfold sgI;rw [if_neg (by omega),if_neg (by omega)])
      clear hla hab hba hxy
      exact ze9f
 ·have e1:(((Ab a).length:Int) != ((Ab b).length:Int))=true:=by simp;omega
  by_cases hlt:(Ab a).length<(Ab b).length
  ·have hli:((Ab a).length:Int)<((Ab b).length:Int):=by omega
   have hab:a<b:=by
    rcases cn a b with h|h
    ·exact h
    ·have:=AJ h;omega
   have HV:=li (show sgI ((a:Int) - (b:Int)) = -1 by unfold sgI;rw [if_neg (by omega),if_pos (by omega)])
   exact Akk
  ·have hli:¬ ((Ab a).length:Int)<((Ab b).length:Int):=by omega
   have hab:b<a:=by
    rcases cn b a with h|h
    ·exact h
    ·have:=AJ h;omega
   have HV:=li (show sgI ((a:Int) - (b:Int))=1 by unfold sgI;rw [if_neg (by omega),if_neg (by omega)])
   exact Akk
theorem AgZ (h:WdR w m v n) (hl:(Ab n).length≤1000000):Calls prog 161 #[v] w fun e w'=>e=.returned v∧w=w':=by
 obtain ⟨A,c,rfl,h1,h2,h3⟩:=h
 have h:=Fi A (Ab n) c m w h3 h2 hl
 have e:HG (Ab n)=Ab n:=by rw [Cz (Ay n),Am]
 rw [e] at h
 exact h
theorem Qh (h:WdR w m v n) (hm:m≤w.heap.size) (hl:(Ab n).length≤100000) (hk:k≤1000000) :
  Calls prog 72 #[v,.int .i64 (k:Int)] w fun e w'=>∃ v',e=.returned v'∧WdR w' w'.heap.size v' (n / 2 ^ k)∧Below w.heap.size w w':=by
 obtain ⟨A,c,rfl,h1,h2,h3⟩:=h
 refine (WW A (Ab n) c k m w hm h3 (Ay n) hl hk).mono ?_
 rintro e w' ⟨G,g,rfl,g1,g2,g3,hb⟩
 rw [Am] at g2 g3 ⊢
 exact ⟨_,rfl,⟨G,g,rfl,g1,g2,g3⟩,hb⟩
theorem TN (h:WdR w m v n) (hm:m≤w.heap.size) (hl:(Ab n).length≤100000) (hk:k≤1000000) :
  Calls prog 70 #[v,.int .i64 (k:Int)] w fun e w'=>∃ v',e=.returned v'∧WdR w' w'.heap.size v' (n*2 ^ k)∧Below w.heap.size w w':=by
 obtain ⟨A,c,rfl,h1,h2,h3⟩:=h
 refine (YI A n c k m w hm h3 h1 h2 hl hk).mono ?_
 rintro e w' ⟨G,g,rfl,g1,g2,g3,hb⟩
 exact ⟨_,rfl,⟨G,g,rfl,g1,g2,g3⟩,hb⟩
theorem Lg {a:Nat} (h:WdR w m v a) (h2:WdR w m v2 b) (hl:(Ab a).length≤100000) (hl2:(Ab b).length≤100000) :
  Calls prog 57 #[v,v2] w fun e w'=>e=.returned (.int .i64 (sgI ((a:Int) - (b:Int))))∧Below w.heap.size w w':=by
 obtain ⟨A,c,rfl,h1,h1',h3⟩:=h
 obtain ⟨A2,c2,rfl,k1,k1',k3⟩:=h2
 exact TM A A2 a b c c2 m w h3 k3 hl hl2
theorem Aha (h:WdR w m v n) (hm:m≤w.heap.size) (hl:(Ab n).length≤100000) (ht:Ah w) :
  Calls prog 162 #[v] w fun e w'=>(∃ z:Nat,e=.returned (.int .i64 (z:Int))∧(n=0→z=1099511627776)∧(n≠0→Akg n z∧z≤3200000))∧w=w':=by
 obtain ⟨A,c,rfl,h1,h2,h3⟩:=h
 exact YF A n c m w hm h3 hl ht
theorem YK {neg:Bool} {n den z:Nat} (hz:n % 2 ^ z=0):∀ k,k≤z→k≤den→nf (sg neg n) den=nf (sg neg (n / 2 ^ k)) (den - k)
 | 0,_,_=>by simp
 | k+1,h1,h2=>by
  rw [YK hz k (by omega) (by omega),YA (by omega) ?_]
  have e:=dh n (2 ^ z)
  rw [hz,bz] at e
  have es:2 ^ z=2 ^ k*(2*2 ^ (z - k - 1)):=by rw [←ii,←bd];congr 1;omega
  rw [←e,es,ao,ao,lc _ (ax k)]
  omega
theorem Aov (h:Akg n z):nf (sg neg n) den=(sg neg (n / 2 ^ (min z den)),den - min z den):=by
 rw [YK h.1 (min z den) (by omega) (by omega)]
 refine Fb (fun h0=>?_)
 have:min z den=z:=by omega
 rw [this]
 have:=h.2
 unfold sg
 split <;> omega
theorem HJ (h2:tmps.getD 6 undef=.pointer (some ⟨b,0,none⟩)) (hB:Bz w b [v0,v1,v2] 43) :
  (results Tryz.f71 tmps).run prog w=.ok (.agg #[v0,v1,v2]) w:=by
 have k0:=hB.cell 0
 have k1:=hB.cell 1
 have k2:=hB.cell 2
 simp at k0 k1 k2
 simp at h2
 simp [results,results71,go_sem,h2,k0,k1,k2]
theorem al_ (u:World) (o:Obj):Below u.heap.size u (u.alloc o):=(ab _ u).alloc (aa _) o
theorem ze7f (h:p:=by
 go_wp2_with fail
 refine bodyPost_ret (HJ rfl (((u1.set_ 0 _).set_ 1 _).set_ 2 _)) rfl ⟨_,rfl,?_,((bv.setCell (by simp) _).setCell (by simp) _).setCell (by simp) _⟩
 rw [HRES.out]
 exact DyR.zero_ _ _ _):p:=h
theorem Ec (h:WdR w m v n) (hm:m≤w.heap.size) (hl:(Ab n).length≤100000) (hd:d≤65536) (ht:Ah w) :
    Calls prog 71 #[.bool neg,v,.int .i64 (d:Int)] w fun e w' =>
      ∃ v',e=.returned v'∧DyR w' w.heap.size w'.heap.size v' (nf (sg neg n) d).1 (nf (sg neg n) d).2∧Below w.heap.size w w':=by
  obtain ⟨A0,L0,c0,rfl⟩:=h.form
  have X:=li h
  have HT:=li ht
  clear h ht
  have b0:Below w.heap.size w (w.alloc (.cells #[.bool false,.slice none 0 0,.int .i64 0] 43)):=Ao (ab _ _) _
  have r0:=Bz.new_ w [.bool false,.slice none 0 0,.int .i64 0] 43
  go_enter func71,ntmps71
  go_wp2_with fail
  go_at_call 161
  refine (AgZ (X.out.below b0 hm) (by omega)).mono ?_
  rintro e w3 ⟨rfl,rfl⟩
  go_wp2_with fail
  go_at_call 162
  refine (Aha (X.out.below b0 hm) (by simp;omega) (by omega) (HT.out.call (al_ _ _))).mono ?_
  rintro e w3 ⟨⟨z,rfl,hz1,hz2⟩,rfl⟩
  obtain ⟨k,hk⟩:∃ k:Nat,k=min z d:=⟨_,rfl⟩
  have hmin:min (z:Int) (d:Int)=(k:Int):=by omega
  have hkd:k≤d:=by omega
  have hdk:¬ (65536:Int)<(d:Int) - (k:Int):=by omega
  have hdk0:¬ (65536:Int)<(d:Int):=by omega
  have hzz:z≤1099511627776:=by
    by_cases h0:n=0
    · have:=hz1 h0;omega
    · have:=(hz2 h0).2;omega
  have hval:n≠0→nf (sg neg n) d=(sg neg (n / 2 ^ k),d - k):=fun h0=>by rw [hk];exact Aov (hz2 h0).1
  have hn2:n≠0→n / 2 ^ k≠0:=fun h0 h1=>by
    have h3:=(hz2 h0).1
    have h4:n / 2 ^ z=0:=by
      have hle:2 ^ k≤2 ^ z:=ap (by decide) (by omega)
      have:=Nat.lt_of_div_eq_zero (ax k) h1
      exact fk (aj this hle)
    have:=h3.2
    rw [h4] at this
    simp at this
  have hk0:n=0→k=d:=fun h0=>by have:=hz1 h0;omega
  have HVAL:=li hval
  have HN2:=li hn2
  have HK0:=li hk0
  clear hz1 hz2 hk hval hn2 hk0
  by_cases hk1:k=0
  · as_aux_lemma =>
    have hkp:¬ 0<k:=by omega
    have hkp':¬ (0:Int)<(k:Int):=by omega
    by_cases hn:n=0
    · as_aux_lemma =>
      obtain ⟨wv,hwv⟩:∃ wv,wv=w.alloc (.cells #[.bool false,.slice none 0 0,.int .i64 0] 43):=⟨_,rfl⟩
      rw [←hwv]
      have rv:Bz wv w.heap.size [.bool false,.slice none 0 0,.int .i64 0] 43:=by rw [hwv];exact r0
      have bv:Below w.heap.size w wv:=by rw [hwv];exact b0
      have Y0:=X.out.below bv hm
      clear hwv r0 b0
      have HRES := li (show nf (sg neg n) d = (0, 0) by rw [hn, show sg neg 0 = 0 by unfold sg; split <;> rfl]; exact TK d)
      have hL:(L0:Int)=0:=by
        obtain ⟨A,c,he,_⟩:=Y0
        cases he
        rw [hn,AF];rfl
      have hLb:((L0:Int) == 0)=true:=by rw [hL];rfl
      have HLZ:=li hL
      subst hk1
      clear hL hn Y0
      have u1:=rv
      have q0:wv.cell? ⟨w.heap.size,0,none⟩=some (.bool false):=u1.cell 0
      have q1:wv.cell? ⟨w.heap.size,1,none⟩=some (.slice none 0 0):=u1.cell 1
      have q2:wv.cell? ⟨w.heap.size,2,none⟩=some (.int .i64 0):=u1.cell 2
      have qf:=u1.free
      have hu1:=u1.lt
      exact ze7f
    · as_aux_lemma =>
      obtain ⟨wv,hwv⟩:∃ wv,wv=w.alloc (.cells #[.bool false,.slice none 0 0,.int .i64 0] 43):=⟨_,rfl⟩
      rw [←hwv]
      have rv:Bz wv w.heap.size [.bool false,.slice none 0 0,.int .i64 0] 43:=by rw [hwv];exact r0
      have bv:Below w.heap.size w wv:=by rw [hwv];exact b0
      have Y0:=X.out.below bv hm
      clear hwv r0 b0
      obtain ⟨y,hy⟩:∃ y,y=n / 2 ^ k:=⟨_,rfl⟩
      have HRES := li (show nf (sg neg n) d = (sg neg y, d - k) by rw [HVAL.out hn, hy])
      have HODD := li (show d - k ≠ 0 → sg neg y % 2 = 1 by
        have h5:=Yy (sg neg n) d
        rw [HRES.out] at h5
        exact h5)
      have HY0 := li (show y ≠ 0 by rw [hy]; exact HN2.out hn)
      have hyl:(Ab y).length≤100000:=lT (AJ (by rw [hy];exact ik _ _)) hl
      have hyp:=Cj HY0.out
      have e0:(((Ab y).length:Int) == 0)=false:=by rw [beq_eq_false_iff_ne];omega
      have hyn:y=n:=by rw [hy,hk1];simp
      subst hk1
      rw [←hyn] at Y0
      obtain ⟨A5,c5,he5,g1,g2,g3⟩:=Y0
      cases he5
      have G3:=li g3
      obtain ⟨hi5,hhi5⟩:∃ hi5,hi5=m:=⟨_,rfl⟩
      rw [←hhi5] at g3
      clear hy hn hyn hhi5
      go_wp2_with (at_builtin
                   refine YJ rfl _ _ rfl wv.heap.size _ [] (Ab y) A0 c0 hi5 rfl (Dw.nil_ _ _) rfl g1 g3 (by simp;omega) (aa _) ?_
                   intro v' w4 hown4 hb4
                   rw [dz] at hown4
                   obtain ⟨A',c',rfl,_,_⟩:=hown4.view
                   have u1:=rv.call hb4
                   have bv4:=bv.trans (hb4.mono (by have:=bv.size;omega))
                   have hsv:=rv.lt
                   have hsz4:=hb4.size
                   clear hb4
                   have q0:w4.cell? ⟨w.heap.size,0,none⟩=some (.bool false):=u1.cell 0
                   have q1:w4.cell? ⟨w.heap.size,1,none⟩=some (.slice none 0 0):=u1.cell 1
                   have q2:w4.cell? ⟨w.heap.size,2,none⟩=some (.int .i64 0):=u1.cell 2
                   have qf:=u1.free
                   have hu1:=u1.lt)
      have hown5:Dw (((w4.setCell ⟨w.heap.size,0,none⟩ (.bool neg)).setCell ⟨w.heap.size,1,none⟩ (.slice A' (Ab y).length c')).setCell ⟨w.heap.size,2,none⟩ (.int .i64 (d:Int))) wv.heap.size (.slice A' (Ab y).length c') (Ab y):=ownsRow_setCell_below (ownsRow_setCell_below (ownsRow_setCell_below hown4 (by simp;omega) _) (by simp;omega) _) (by simp;omega) _
      refine bodyPost_ret (HJ rfl (((u1.set_ 0 _).set_ 1 _).set_ 2 _)) rfl ⟨_,rfl,?_,((bv4.setCell (by simp) _).setCell (by simp) _).setCell (by simp) _⟩
      rw [HRES.out]
      obtain ⟨_,hcl,hn',hc'⟩:=hown5.cap_
      refine ⟨A',c',?_,hn',?_,?_,?_,by show d - 0≤65536;omega,?_⟩
      · rw [Hk,Yz HY0.out]
        have:(d:Int)=((d - 0:Nat):Int):=by omega
        rw [this]
      · rw [Hk];exact hcl
      · rw [Hk];exact hc'
      · intro a ha
        have:=(World.ownsRow.lt hown5 a.block (by rw [ha];rfl)).1
        have:=bv.size
        omega
      · intro h
        have h5:=HODD.out h
        exact h5
  · have hkp:0<k:=by omega
    have hkp':(0:Int)<(k:Int):=by omega
    by_cases hn:n=0
    · as_aux_lemma =>
      have HRES := li (show nf (sg neg n) d = (0, 0) by rw [hn, show sg neg 0 = 0 by unfold sg; split <;> rfl]; exact TK d)
      have hkd0:=HK0.out hn
      go_wp2_with fail
      go_at_call 72
      refine (Qh (X.out.below b0 hm) (by simp;omega) hl (by omega)).mono ?_
      rintro e wv ⟨v5,rfl,Y0,hb5⟩
      have rv:=r0.call hb5
      have bv:=b0.trans (hb5.mono (by simp))
      clear hb5 r0 b0
      rw [hn,Nat.zero_div] at Y0
      obtain ⟨A5,c5,he5,g1,g2,g3⟩:=Y0
      rw [AF] at he5
      subst he5
      clear hn g1 g2 g3
      have u1:=rv
      have q0:wv.cell? ⟨w.heap.size,0,none⟩=some (.bool false):=u1.cell 0
      have q1:wv.cell? ⟨w.heap.size,1,none⟩=some (.slice none 0 0):=u1.cell 1
      have q2:wv.cell? ⟨w.heap.size,2,none⟩=some (.int .i64 0):=u1.cell 2
      have qf:=u1.free
      have hu1:=u1.lt
      exact ze7f
    · as_aux_lemma =>
      obtain ⟨y,hy⟩:∃ y,y=n / 2 ^ k:=⟨_,rfl⟩
      have HRES := li (show nf (sg neg n) d = (sg neg y, d - k) by rw [HVAL.out hn, hy])
      have HODD := li (show d - k ≠ 0 → sg neg y % 2 = 1 by
        have h5:=Yy (sg neg n) d
        rw [HRES.out] at h5
        exact h5)
      have HY0 := li (show y ≠ 0 by rw [hy]; exact HN2.out hn)
      have hyl:(Ab y).length≤100000:=lT (AJ (by rw [hy];exact ik _ _)) hl
      have hyp:=Cj HY0.out
      have e0:(((Ab y).length:Int) == 0)=false:=by rw [beq_eq_false_iff_ne];omega
      clear hn
      go_wp2_with fail
      go_at_call 72
      refine (Qh (X.out.below b0 hm) (by simp;omega) hl (by omega)).mono ?_
      rintro e wv ⟨v5,rfl,Y0,hb5⟩
      have rv:=r0.call hb5
      have bv:=b0.trans (hb5.mono (by simp))
      clear hb5 r0 b0
      rw [←hy] at Y0
      obtain ⟨A5,c5,rfl,g1,g2,g3⟩:=Y0
      obtain ⟨hi5,hhi5⟩:∃ hi5,hi5=wv.heap.size:=⟨_,rfl⟩
      rw [←hhi5] at g3
      clear hy hhi5
      go_wp2_with (at_builtin
                   refine YJ rfl _ _ rfl wv.heap.size _ [] (Ab y) A5 c5 hi5 rfl (Dw.nil_ _ _) rfl g1 g3 (by simp;omega) (aa _) ?_
                   intro v' w4 hown4 hb4
                   rw [dz] at hown4
                   obtain ⟨A',c',rfl,_,_⟩:=hown4.view
                   have u1:=rv.call hb4
                   have bv4:=bv.trans (hb4.mono (by have:=bv.size;omega))
                   have hsv:=rv.lt
                   have hsz4:=hb4.size
                   clear hb4
                   have q0:w4.cell? ⟨w.heap.size,0,none⟩=some (.bool false):=u1.cell 0
                   have q1:w4.cell? ⟨w.heap.size,1,none⟩=some (.slice none 0 0):=u1.cell 1
                   have q2:w4.cell? ⟨w.heap.size,2,none⟩=some (.int .i64 0):=u1.cell 2
                   have qf:=u1.free
                   have hu1:=u1.lt)
      have hown5:Dw (((w4.setCell ⟨w.heap.size,0,none⟩ (.bool neg)).setCell ⟨w.heap.size,1,none⟩ (.slice A' (Ab y).length c')).setCell ⟨w.heap.size,2,none⟩ (.int .i64 ((d:Int) - (k:Int)))) wv.heap.size (.slice A' (Ab y).length c') (Ab y):=ownsRow_setCell_below (ownsRow_setCell_below (ownsRow_setCell_below hown4 (by simp;omega) _) (by simp;omega) _) (by simp;omega) _
      refine bodyPost_ret (HJ rfl (((u1.set_ 0 _).set_ 1 _).set_ 2 _)) rfl ⟨_,rfl,?_,((bv4.setCell (by simp) _).setCell (by simp) _).setCell (by simp) _⟩
      rw [HRES.out]
      obtain ⟨_,hcl,hn',hc'⟩:=hown5.cap_
      refine ⟨A',c',?_,hn',?_,?_,?_,by show d - k≤65536;omega,?_⟩
      · rw [Hk,Yz HY0.out]
        have:((d:Int) - (k:Int))=((d - k:Nat):Int):=by omega
        rw [this]
      · rw [Hk];exact hcl
      · rw [Hk];exact hc'
      · intro a ha
        have:=(World.ownsRow.lt hown5 a.block (by rw [ha];rfl)).1
        have:=bv.size
        omega
      · intro h
        have h5:=HODD.out h
        exact h5
theorem YL (m:Int):∀ (k d:Nat),nf (m*2 ^ k) d=if k≤d then nf m (d - k) else (m*2 ^ (k - d),0)
 | 0,d=>by simp
 | k+1,0=>rfl
 | k+1,d+1=>by
  have e1:m*2 ^ (k+1)=2*(m*2 ^ k):=by rw [il,←ar,eg]
  have h:nf (m*2 ^ (k+1)) (d+1)=nf (m*2 ^ k) d:=by
   rw [e1]
   show (if (2*(m*2 ^ k)) % 2=0 then nf (2*(m*2 ^ k) / 2) d else _)=_
   rw [if_pos (by omega),show 2*(m*2 ^ k) / 2=m*2 ^ k by omega]
  rw [h,YL m k d]
  by_cases hk:k≤d
  ·rw [if_pos hk,if_pos (by omega),show d+1 - (k+1)=d - k by omega]
  ·rw [if_neg hk,if_neg (by omega),show k+1 - (d+1)=k - d by omega]
theorem Pa (u:Nat) (w:World) (hu:u<18446744073709551616) :
  Calls prog 160 #[.int .u64 (u:Int)] w fun e w'=>∃ v',e=.returned v'∧WdR w' w'.heap.size v' u∧Below w.heap.size w w':=by
 obtain ⟨lo,hlo⟩:∃ lo:Nat,(u:Int) % 4294967296=(lo:Int):=⟨(u % 4294967296:Nat),by omega⟩
 obtain ⟨hi,hhi⟩:∃ hi:Nat,(u:Int) / 4294967296=(hi:Int):=⟨(u / 4294967296:Nat),by omega⟩
 have hib:hi<4294967296:=by omega
 have lob:lo<4294967296:=by omega
 have hval:Az [lo,hi]=u:=by rw [Qg];omega
 have HV:=li hval
 have c0:An (w.alloc (.cells #[.int .u32 (lo:Int),.int .u32 (hi:Int)] 126)) (w.heap.size+1) (some ⟨w.heap.size,0,none⟩) (w32 [lo,hi]) :=
  (Bz.new_ w (w32 [lo,hi]) 126).cells_ (by omega)
 have C0:=li c0
 clear hval c0
 go_enter func160,ntmps160
 go_wp2_with fail
 go_at_call 161
 refine (Fi (some ⟨w.heap.size,0,none⟩) [lo,hi] 2 (w.heap.size+1) _ C0.out (by simp) (by simp)).mono ?_
 rintro e w3 ⟨rfl,rfl⟩
 go_wp2_with fail
 go_ret
 have hcan:=Cz (AgT lob hib)
 rw [HV.out] at hcan
 refine ⟨_,rfl,⟨some ⟨w.heap.size,0,none⟩,2,by rw [hcan];rfl,by simp,?_,?_⟩,al_ _ _⟩
 ·rw [←hcan,Cd]
  exact Ea _ _
 ·rw [←hcan]
  exact (C0.out.takeW _).more (by simp)
theorem YM (h2:tmps.getD 2 undef=.pointer (some ⟨b,0,none⟩)) (hB:Bz w b [v0,v1,v2] 43) :
  (results Tryz.f68 tmps).run prog w=.ok (.agg #[v0,v1,v2]) w:=by
 have k0:=hB.cell 0
 have k1:=hB.cell 1
 have k2:=hB.cell 2
 simp at k0 k1 k2
 simp at h2
 simp [results,results68,go_sem,h2,k0,k1,k2]
theorem Akl (h:p:=by
 exact ((((D3'.out.set_ (by omega) 0 _).set_ (by omega) 1 _).set_ (by omega) 2 _).low (by omega)).more (by simp)):p:=h
theorem YN (n:Int) (h1 : -9223372036854775808≤n) (h2:n<9223372036854775808) (w:World) (ht:Ah w) :
  Calls prog 68 #[.int .i64 n] w fun e w'=>∃ v',e=.returned v'∧DyR w' w.heap.size w'.heap.size v' n 0∧Below w.heap.size w w':=by
 by_cases h:n<0
 ·as_aux_lemma =>
  obtain ⟨u,hu⟩:∃ u:Nat,-n=(u:Int):=⟨(-n).toNat,by omega⟩
  obtain ⟨vv,hvv⟩:∃ vv:Nat,n+18446744073709551616=(vv:Int):=⟨(n+18446744073709551616).toNat,by omega⟩
  have hu1:IntKind.u64.wrap n=(vv:Int):=by rw [et];omega
  have hu2:IntKind.u64.wrap (-(vv:Int))=(u:Int):=by rw [et];omega
  have hsg:sg true u=n:=by unfold sg;simp;omega
  have hub:u<18446744073709551616:=by omega
  have hcl:(Ab u).length≤2:=AC (by omega)
  have HSG:=li hsg
  have HT:=li ht
  clear hsg ht hvv hu
  have b0:Below w.heap.size w (w.alloc (.cells #[.bool false,.slice none 0 0,.int .i64 0] 43)):=Ao (ab _ _) _
  have r0:=Bz.new_ w [.bool false,.slice none 0 0,.int .i64 0] 43
  go_enter func68,ntmps68
  go_wp2_with fail
  go_at_call 160
  refine (Pa u _ hub).mono ?_
  rintro e w1 ⟨v1,rfl,Y,hb1⟩
  have r1:=r0.call hb1
  have b1:=b0.trans (hb1.mono (by simp))
  have hw1:=r1.lt
  have HT1:=HT.out.below b1 HT.out.1
  obtain ⟨A1,L1,c1,rfl⟩:=Y.form
  have Y':=li Y
  clear hb1 r0 b0 Y
  go_wp2_with fail
  go_at_call 71
  refine (Ec (d:=0) Y'.out (aa _) (by omega) (by omega) HT1).mono ?_
  rintro e w3 ⟨v',rfl,D3,hb3⟩
  rw [HSG.out] at D3
  have D3:DyR w3 (w.heap.size+1) w3.heap.size v' n 0:=D3.low (by omega)
  have u1:=r1.call hb3
  have bv:=b1.trans (hb3.mono (by have:=b1.size;omega))
  obtain ⟨nb3,A3,L3,c3,rfl,_⟩:=D3.form
  have D3':=li D3
  clear D3 hb3 r1 b1
  have q0:w3.cell? ⟨w.heap.size,0,none⟩=some (.bool false):=u1.cell 0
  have q1:w3.cell? ⟨w.heap.size,1,none⟩=some (.slice none 0 0):=u1.cell 1
  have q2:w3.cell? ⟨w.heap.size,2,none⟩=some (.int .i64 0):=u1.cell 2
  have qf:=u1.free
  have hu1:=u1.lt
  go_wp2_with fail
  refine bodyPost_ret (YM rfl (((u1.set_ 0 _).set_ 1 _).set_ 2 _)) rfl ⟨_,rfl,?_,((bv.setCell (by simp) _).setCell (by simp) _).setCell (by simp) _⟩
  exact Akl
 ·as_aux_lemma =>
  obtain ⟨u,rfl⟩:∃ u:Nat,n=(u:Int):=⟨n.toNat,by omega⟩
  have hsg:sg false u=(u:Int):=by unfold sg;simp
  have hub:u<18446744073709551616:=by omega
  have hcl:(Ab u).length≤2:=AC (by omega)
  have HSG:=li hsg
  have HT:=li ht
  clear hsg ht
  have b0:Below w.heap.size w (w.alloc (.cells #[.bool false,.slice none 0 0,.int .i64 0] 43)):=Ao (ab _ _) _
  have r0:=Bz.new_ w [.bool false,.slice none 0 0,.int .i64 0] 43
  go_enter func68,ntmps68
  go_wp2_with fail
  go_at_call 160
  refine (Pa u _ hub).mono ?_
  rintro e w1 ⟨v1,rfl,Y,hb1⟩
  have r1:=r0.call hb1
  have b1:=b0.trans (hb1.mono (by simp))
  have hw1:=r1.lt
  have HT1:=HT.out.below b1 HT.out.1
  obtain ⟨A1,L1,c1,rfl⟩:=Y.form
  have Y':=li Y
  clear hb1 r0 b0 Y
  go_wp2_with fail
  go_at_call 71
  refine (Ec (d:=0) Y'.out (aa _) (by omega) (by omega) HT1).mono ?_
  rintro e w3 ⟨v',rfl,D3,hb3⟩
  rw [HSG.out] at D3
  have D3:DyR w3 (w.heap.size+1) w3.heap.size v' (u:Int) 0:=D3.low (by omega)
  have u1:=r1.call hb3
  have bv:=b1.trans (hb3.mono (by have:=b1.size;omega))
  obtain ⟨nb3,A3,L3,c3,rfl,_⟩:=D3.form
  have D3':=li D3
  clear D3 hb3 r1 b1
  have q0:w3.cell? ⟨w.heap.size,0,none⟩=some (.bool false):=u1.cell 0
  have q1:w3.cell? ⟨w.heap.size,1,none⟩=some (.slice none 0 0):=u1.cell 1
  have q2:w3.cell? ⟨w.heap.size,2,none⟩=some (.int .i64 0):=u1.cell 2
  have qf:=u1.free
  have hu1:=u1.lt
  go_wp2_with fail
  refine bodyPost_ret (YM rfl (((u1.set_ 0 _).set_ 1 _).set_ 2 _)) rfl ⟨_,rfl,?_,((bv.setCell (by simp) _).setCell (by simp) _).setCell (by simp) _⟩
  exact Akl
theorem WX (h2:tmps.getD 4 undef=.pointer (some ⟨b,0,none⟩)) (hB:Bz w b [v0,v1,v2] 43) :
  (results Tryz.f21 tmps).run prog w=.ok (.agg #[v0,v1,v2]) w:=by
 have k0:=hB.cell 0
 have k1:=hB.cell 1
 have k2:=hB.cell 2
 simp at k0 k1 k2
 simp at h2
 simp [results,results21,go_sem,h2,k0,k1,k2]
theorem ze1f (h:p:=by
 obtain ⟨nb3,A3,L3,c3,rfl,_⟩:=D3.form
 have D3':=li D3
 clear D3 hb3 r1 b1
 have q0:w3.cell? ⟨w.heap.size+1,0,none⟩=some (.bool false):=u1.cell 0
 have q1:w3.cell? ⟨w.heap.size+1,1,none⟩=some (.slice none 0 0):=u1.cell 1
 have q2:w3.cell? ⟨w.heap.size+1,2,none⟩=some (.int .i64 0):=u1.cell 2
 have qf:=u1.free
 have hu1:=u1.lt
 go_wp2_with fail
 refine bodyPost_ret (WX rfl (((u1.set_ 0 _).set_ 1 _).set_ 2 _)) rfl ⟨_,rfl,?_,((bv.setCell (by simp) _).setCell (by simp) _).setCell (by simp) _⟩
 exact ((((D3'.out.set_ (by omega) 0 _).set_ (by omega) 1 _).set_ (by omega) 2 _).low (by omega)).more (by simp)):p:=h
theorem Pb {n:Int} (D:DyR w lo m v x d) (hm:m≤w.heap.size) (hl:(Ab x.natAbs).length≤50000) (hd:(d:Int) - max (-65536) (min n 65536)≤65536) (ht:Ah w) :
    Calls prog 21 #[v,.int .i64 n] w fun e w'=>∃ v',e=.returned v'∧DyR w' w.heap.size w'.heap.size v' (Ae x d n).1 (Ae x d n).2∧Below w.heap.size w w':=by
  obtain ⟨nn,hnn⟩:∃ nn:Int,max (-65536) (min n 65536)=nn:=⟨_,rfl⟩
  have hb1 : -65536≤nn:=by omega
  have hb2:nn≤65536:=by omega
  rw [hnn] at hd
  have hdd:=D.bound.1
  by_cases hneg:(d:Int) - nn<0
  · as_aux_lemma =>
    obtain ⟨p,hp⟩:∃ p:Nat,-((d:Int) - nn)=(p:Int):=⟨(nn - d).toNat,by omega⟩
    have HV := li (show Ae x d n = (x * 2 ^ p, 0) by
      unfold Ae
      rw [hnn,if_neg (by omega)]
      rw [YL,if_neg (by omega)]
      congr 3
      omega)
    have hp6:p≤1000000:=by omega
    have hlen:(Ab (x.natAbs*2 ^ p)).length≤100000:=by
      have:=Bo x.natAbs p
      omega
    have hpn:(d:Int) - nn<0:=by omega
    obtain ⟨nb,A,L,c,rfl,HD⟩:=D.form
    have hd6:=D.bound.1
    have D':=li D
    have HT:=li ht
    have HN:=li hnn
    have b0:Below w.heap.size w ((w.alloc (.cells #[.bool nb,.slice A L c,.int .i64 (d:Int)] 43)).alloc (.cells #[.bool false,.slice none 0 0,.int .i64 0] 43)):=Ao (Ao (ab _ _) _) _
    have r0:=Bz.new_ (w.alloc (.cells #[.bool nb,.slice A L c,.int .i64 (d:Int)] 43)) [.bool false,.slice none 0 0,.int .i64 0] 43
    rw [show (w.alloc (.cells #[.bool nb,.slice A L c,.int .i64 (d:Int)] 43)).heap.size=w.heap.size+1 by simp] at r0
    clear D ht
    go_enter func21,ntmps21
    go_wp2_with fail
    go_at_call 69
    refine (FK (D'.out.below b0 hm) (by simp;omega) (by omega)).mono ?_
    rintro e w1 ⟨nb',A',L',c',he,rfl,hb1⟩
    cases he
    have r1:=r0.call hb1
    have b1:=b0.trans (hb1.mono (by simp;omega))
    have hw1:=r1.lt
    have HT1:=HT.out.below b1 HT.out.1
    have X1:=(D'.out.below b1 hm).words
    clear hb1 r0 b0
    go_wp2_with fail
    go_at_call 70
    refine (TN X1 (by omega) (by omega) hp6).mono ?_
    rintro e w2 ⟨v2,rfl,Y,hb2⟩
    have r2:=r1.call hb2
    have b2:=b1.trans (hb2.mono (by omega))
    have HT2:=HT1.call hb2
    obtain ⟨A2,L2,c2,rfl⟩:=Y.form
    have hw2:=r2.lt
    clear hb2 r1 b1 HT1 X1
    go_wp2_with fail
    go_at_call 71
    refine (Ec (d:=0) Y (aa _) hlen (by omega) HT2).mono ?_
    rintro e w3 ⟨v',rfl,D3,hb3⟩
    rw [show nf (sg nb (x.natAbs*2 ^ p)) 0=Ae x d n by rw [HD.out.1,Vc,HV.out];rfl] at D3
    have r1:=r2
    have b1:=b2
    clear r2 b2
    have u1:=r1.call hb3
    have bv:=b1.trans (hb3.mono (by have:=b1.size;omega))
    exact ze1f
  · as_aux_lemma =>
    obtain ⟨p,hp⟩:∃ p:Nat,(d:Int) - nn=(p:Int):=⟨(d - nn).toNat,by omega⟩
    have HV := li (show Ae x d n = nf x p by
      unfold Ae
      rw [hnn]
      by_cases h0:nn<0
      · rw [if_pos h0]
        congr 1
        omega
      · rw [if_neg h0,YL,if_pos (by omega)]
        congr 1
        omega)
    have hp6:p≤65536:=by omega
    have hpn:¬ (d:Int) - nn<0:=by omega
    obtain ⟨nb,A,L,c,rfl,HD⟩:=D.form
    have hd6:=D.bound.1
    have D':=li D
    have HT:=li ht
    have HN:=li hnn
    have b0:Below w.heap.size w ((w.alloc (.cells #[.bool nb,.slice A L c,.int .i64 (d:Int)] 43)).alloc (.cells #[.bool false,.slice none 0 0,.int .i64 0] 43)):=Ao (Ao (ab _ _) _) _
    have r0:=Bz.new_ (w.alloc (.cells #[.bool nb,.slice A L c,.int .i64 (d:Int)] 43)) [.bool false,.slice none 0 0,.int .i64 0] 43
    rw [show (w.alloc (.cells #[.bool nb,.slice A L c,.int .i64 (d:Int)] 43)).heap.size=w.heap.size+1 by simp] at r0
    clear D ht
    go_enter func21,ntmps21
    go_wp2_with fail
    go_at_call 69
    refine (FK (D'.out.below b0 hm) (by simp;omega) (by omega)).mono ?_
    rintro e w1 ⟨nb',A',L',c',he,rfl,hb1⟩
    cases he
    have r1:=r0.call hb1
    have b1:=b0.trans (hb1.mono (by simp;omega))
    have hw1:=r1.lt
    have HT1:=HT.out.below b1 HT.out.1
    have X1:=(D'.out.below b1 hm).words
    clear hb1 r0 b0
    go_wp2_with fail
    go_at_call 71
    refine (Ec (d:=p) X1 (by omega) (by omega) hp6 HT1).mono ?_
    rintro e w3 ⟨v',rfl,D3,hb3⟩
    rw [show nf (sg nb x.natAbs) p=Ae x d n by rw [HD.out.1,Qf,HV.out]] at D3
    have u1:=r1.call hb3
    have bv:=b1.trans (hb3.mono (by have:=b1.size;omega))
    exact ze1f
theorem RK (x y c:Nat) (w:World) (hx:x<4294967296) (hy:y<4294967296) (hc:c≤1) :
  Calls prog 164 #[.int .u32 (x:Int),.int .u32 (y:Int),.int .u32 (c:Int)] w fun e w'=>e=.returned (.tuple #[.int .u32 (((x+y+c) % 4294967296:Nat):Int),.int .u32 (((x+y+c) / 4294967296:Nat):Int)])∧w=w':=by
 have h1:(x:Int) % 18446744073709551616=(x:Int):=by omega
 have h2:(y:Int) % 18446744073709551616=(y:Int):=by omega
 have h3:(c:Int) % 18446744073709551616=(c:Int):=by omega
 obtain ⟨s,hs⟩:∃ s:Nat,(x:Int)+(y:Int)+(c:Int)=(s:Int):=⟨x+y+c,by omega⟩
 have hs2:x+y+c=s:=by omega
 have hsb:s<8589934592:=by omega
 rw [hs2]
 go_enter func164,ntmps164
 go_wp2_with fail
 refine bodyPost_ret (v:=.tuple #[.int .u32 ((s % 4294967296:Nat):Int),.int .u32 ((s / 4294967296:Nat):Int)]) ?_ rfl ⟨rfl,rfl⟩
 simp [results,results164,go_sem]
def Aow (w:World) (a b:List Nat) (g L:Nat) (cv i:Value) (wr:World):Prop :=
 ∃ (k:Nat) (os:List Nat) (cy:Nat),k≤L∧i=.int .i64 (k:Int)∧cv=.int .u32 (cy:Int)∧Dw wr w.heap.size (.slice (some ⟨g,0,none⟩) L L) (os++List.replicate (L - k) 0)∧os.length=k∧Ar os∧cy≤1 ∧
  Az os+4294967296 ^ k*cy=Az (a.take k)+Az (b.take k)∧Below w.heap.size w wr
theorem Akm {b:List Nat} (ha:Ar a) (hb:Ar b) (hL:L=max a.length b.length+1) (hol:os.length=L) (hv:Az os+4294967296 ^ L*cy=Az (a.take L)+Az (b.take L)):Az os=Az a+Az b:=by
 rw [al (by omega),al (by omega)] at hv
 have h1:=BE ha
 have h2:=BE hb
 have p1:4294967296 ^ a.length≤4294967296 ^ (max a.length b.length):=ap (by decide) (by omega)
 have p2:4294967296 ^ b.length≤4294967296 ^ (max a.length b.length):=ap (by decide) (by omega)
 have p3:4294967296 ^ L=4294967296*4294967296 ^ (max a.length b.length):=by rw [hL,bg,aq]
 rcases df cy with h|h
 ·rw [h] at hv;omega
 ·have:4294967296 ^ L*1≤4294967296 ^ L*cy:=gb _ h
  omega
theorem Acv (A B:Option Addr) (a b:List Nat) (c1 c2 m:Nat) (w:World) (hm:m≤w.heap.size) (h1:An w m A (w32 a)) (h2:An w m B (w32 b)) (ha:Ar a) (hb:Ar b) (l1:a.length≤90000) (l2:b.length≤90000) :
  Calls prog 73 #[.slice A a.length c1,.slice B b.length c2] w fun e w' =>
   ∃ G g,e=.returned (.slice G (Ab (Az a+Az b)).length g)∧(G=none→g=0)∧(Ab (Az a+Az b)).length≤g∧An w' w'.heap.size G (w32 (Ab (Az a+Az b)))∧Below w.heap.size w w':=by
 have H1:=li h1
 have H2:=li h2
 have HA:=li ha
 have HB:=li hb
 obtain ⟨L,hL⟩:∃ L,L=max a.length b.length+1:=⟨_,rfl⟩
 have hLi:max (a.length:Int) (b.length:Int)+1=(L:Int):=by omega
 have hL6:L≤100000:=by omega
 have HL:=li hL
 obtain ⟨i0,hi,hz0,hz1,hz2⟩:=info_parts Qe
 clear h1 h2 ha hb hL
 go_enter func73,ntmps73
 go_wp2_with (with_reducible refine wpList_make_full _ rfl (.tmp 13) (.tmp 13) 112 rfl w.heap.size 126 i0 (.int .u32 0) 1 Gp hi hz0 hz1 .i64 .i64 _ _ L rfl rfl rfl rfl (by rw [hz2];omega) (by unfold maxLen;omega) (aa _) ?_;intro w2 hown hg)
 have hst:=(ab w.heap.size w).grown hg (aa _) (fun k h=>by simp at h)
 have hown2:=YG hown
 obtain ⟨g,hg1⟩:∃ g,g=w.heap.size:=⟨_,rfl⟩
 have hgw:=li hg1
 rw [←hg1]
 rw [show Dw w2 w.heap.size (.slice (some ⟨w.heap.size,0,none⟩) L L) (List.replicate L 0)=Dw w2 w.heap.size (.slice (some ⟨g,0,none⟩) L L) (List.replicate L 0) by rw [hg1]] at hown2
 clear hown hg hi hz0 hz1 hz2 hg1
 go_loopw [6,17] (fun cv i wr=>Aow w a b g L cv i wr) (fun _ i _=>L - (intOf i).toNat)
 case atStart=>exact ⟨0,[],0,ad _,rfl,rfl,by simpa using hown2,rfl,by simp [Ar],by omega,by simp [Az],hst⟩
 case round =>
  obtain ⟨k,os,cy,hk,rfl,rfl,hown,hol,hok,hcy,hv,hb⟩:=hrel
  have HO:=li hown
  have HOL:=li hol
  have HOK:=li hok
  have HV:=li hv
  have hsz:=hb.size
  have hlen:=li (show L=(os++List.replicate (L - k) 0).length by simp;omega)
  clear hown hol hok hv hown2 hst
  by_cases hlt:k<L
  ·obtain ⟨x,hx⟩:∃ x,x=a[k]?.getD 0:=⟨_,rfl⟩
   obtain ⟨y,hy⟩:∃ y,y=b[k]?.getD 0:=⟨_,rfl⟩
   have bx:x<4294967296:=by
    rw [hx]
    by_cases h:k<a.length
    ·rw [gE h];exact HA.out _ (fj h)
    ·rw [dn (by omega)];decide
   have by':y<4294967296:=by
    rw [hy]
    by_cases h:k<b.length
    ·rw [gE h];exact HB.out _ (fj h)
    ·rw [dn (by omega)];decide
   have hat1:=Vd A a c1 k m wr (H1.out.below hb hm) (by omega) (by omega)
   have hat2:=Vd B b c2 k m wr (H2.out.below hb hm) (by omega) (by omega)
   rw [←hx] at hat1
   rw [←hy] at hat2
   have hadd:=RK x y cy wr bx by' hcy
   obtain ⟨z,hz⟩:∃ z,z=(x+y+cy) % 4294967296:=⟨_,rfl⟩
   obtain ⟨c',hc'⟩:∃ c',c'=(x+y+cy) / 4294967296:=⟨_,rfl⟩
   rw [←hz,←hc'] at hadd
   have HZ:=li (show z+4294967296*c'=cy+x+y by omega)
   have HZB:=li (show z<4294967296 by omega)
   have HCB:=li (show c'≤1 by omega)
   have HAT1:=li hat1
   have HAT2:=li hat2
   have HADD:=li hadd
   have HX:=li hx.symm
   have HY:=li hy.symm
   have hkl':(k:Int)<(L:Int):=by omega
   have f1:wr.cell? ⟨g,k,none⟩=some (.int .u32 0):=by
    have:=HO.out.cellA (j:=k) (z:=0) (by rw [du (by rw [HOL.out];omega),HOL.out,ei];rw [kc];simp;omega)
    simpa using this
   have f2:∀ j,wr.frozen? ⟨g,j,none⟩=false:=fun j=>HO.out.freeA hlen.out j
   clear hx hy hz hc' hat1 hat2 hadd
   go_wp2_with fail
   go_at_call 163
   refine HAT1.out.mono ?_
   rintro e wq ⟨rfl,rfl⟩
   go_wp2_with fail
   go_at_call 163
   refine HAT2.out.mono ?_
   rintro e wq ⟨rfl,rfl⟩
   go_wp2_with fail
   go_at_call 164
   refine HADD.out.mono ?_
   rintro e wq ⟨rfl,rfl⟩
   go_wp2_with fail
   refine ⟨⟨k+1,os++[z],c',by omega,by go_num,rfl,?_,by rw [ak,HOL.out];rfl,Cb HOK.out HZB.out,HCB.out,TH HOL.out HX.out HY.out HV.out HZ.out,hb.setCell (by have:=hgw.out;simp;omega) _⟩,by simp [intOf];omega⟩
   have h5:=HO.out.put hlen.out k z
   rw [YH HOL.out hlt] at h5
   exact h5
  ·have hkL:k=L:=by omega
   have hle:¬ (k:Int)<(L:Int):=by omega
   have hO:=HO.out
   rw [hkL,ei,List.replicate_zero,az] at hO
   have hol:=HOL.out.trans hkL
   have hL6':os.length≤1000000:=by omega
   have HWV:=li (Akm HA.out HB.out HL.out hol (by have:=HV.out;rw [hkL] at this;exact this))
   have HGC:=li hO.cap_.2.2.2
   have hcall:=Fi (some ⟨g,0,none⟩) os os.length wr.heap.size wr HGC.out (aa _) hL6'
   exact ze4f
def Aox (w:World) (a:List Nat) (u i:Value) (wr:World):Prop:=∃ k:Nat,k≤a.length∧i=.int .i64 ((k:Int) - 1)∧u=.int .u64 (Az (a.drop k):Int)∧w=wr
theorem YO (A:Option Addr) (a:List Nat) (c m:Nat) (w:World) (h:An w m A (w32 a)) (ha:Ar a) (hl:a.length≤2) :
  Calls prog 249 #[.slice A a.length c] w fun e w'=>e=.returned (.int .u64 (Az a:Int))∧w=w':=by
 have H:=li h
 have HA:=li ha
 clear h ha
 go_enter func249,ntmps249
 go_wp2_with fail
 go_loopw [3,4] (fun u i wr=>Aox w a u i wr) (fun _ i _=>(intOf i+1).toNat)
 case atStart=>exact ⟨a.length,aa _,by go_num,by simp [Az],rfl⟩
 case round =>
  obtain ⟨k,hk,rfl,rfl,rfl⟩:=hrel
  by_cases hk0:k=0
  ·subst hk0
   have e:((0:Nat):Int) - 1 = -1:=rfl
   rw [e,im]
   go_wp2_with fail
   go_ret
   exact ⟨rfl,rfl⟩
  ·obtain ⟨j,rfl⟩:∃ j,k=j+1:=⟨k - 1,by omega⟩
   have e:((j+1:Nat):Int) - 1=(j:Int):=by omega
   rw [e]
   have hj:j<a.length:=by omega
   obtain ⟨b1,o1,x,rfl,q1,_,hx,g1⟩:=H.out.w32_ hj
   have bx:=HA.out x (gM hx)
   obtain ⟨mm,hm⟩:∃ mm,mm=Az (a.drop (j+1)):=⟨_,rfl⟩
   have bm:mm<4294967296:=by
    have h1:=BE (ws:=a.drop (j+1)) (fun z hz=>HA.out z (ke hz))
    have h2:(a.drop (j+1)).length≤1:=by simp;omega
    have h3:4294967296 ^ (a.drop (j+1)).length≤4294967296 ^ 1:=ap (by decide) h2
    omega
   have hd:Az (a.drop j)=x+4294967296*mm:=by
    rw [hm,dv hj]
    have:a[j]=x:=by rw [gE hj] at hx;simpa using hx
    rw [this]
    rfl
   rw [←hm]
   have HD:=li hd
   have w3:IntKind.u64.wrap ((mm:Int)*4294967296)=(mm:Int)*4294967296:=by rw [et];omega
   obtain ⟨s,hs⟩:∃ s,s=x+4294967296*mm:=⟨_,rfl⟩
   have hor:bits .or .u64 ((mm:Int)*4294967296) (x:Int)=(s:Int):=by rw [hs];exact Akd bm bx
   have HS:=li hs
   have hji:(j:Int)<(a.length:Int):=by omega
   clear hx hm hd hs hk0 e
   go_wp2_with fail
   exact ⟨⟨j,by omega,by go_num,by rw [HD.out,←HS.out],rfl⟩,by simp [intOf]⟩
def WY (x:Int):Bool:=decide (-9223372036854775808≤x∧x<9223372036854775808)
def Akn (x:Int):Int:=if WY x=true then x else 0
theorem Vf (h:¬ (-9223372036854775808≤x∧x<9223372036854775808)):WY x=false∧Akn x=0:=by
 have h1:WY x=false:=decide_eq_false h
 exact ⟨h1,by unfold Akn;rw [h1];rfl⟩
theorem Nc (h : -9223372036854775808≤x∧x<9223372036854775808):WY x=true∧Akn x=x:=by
 have h1:WY x=true:=decide_eq_true h
 exact ⟨h1,by unfold Akn;rw [h1];rfl⟩
theorem Aoy (h:p:=by
 go_wp2_with fail
 exact bodyPost_ret (v:=.tuple #[.int .i64 0,.bool false]) (by simp [results,results210,go_sem]) rfl ⟨by rw [HV.out.1,HV.out.2],HB.out⟩):p:=h
theorem Acw (D:DyR w lo m v x d) (hd0:d=0) (hm:m≤w.heap.size) (hl:(Ab x.natAbs).length≤50000) :
  Calls prog 210 #[v] w fun e w'=>e=.returned (.tuple #[.int .i64 (Akn x),.bool (WY x)])∧Below w.heap.size w w':=by
 obtain ⟨nb,A,L,c,rfl,HD⟩:=D.form
 have D':=li D
 have b0:Below w.heap.size w (w.alloc (.cells #[.bool nb,.slice A L c,.int .i64 (d:Int)] 43)):=Ao (ab _ _) _
 have hL:L=(Ab x.natAbs).length:=HD.out.2.1
 have HNB:=li HD.out.1
 have HL:=li hL
 have hdi:decide ((0:Int)<(d:Int))=false:=decide_eq_false (by omega)
 have hdz:¬ (0:Int)<(d:Int):=by omega
 clear D hd0 hL
 go_enter func210,ntmps210
 go_wp2_with fail
 go_at_call 69
 refine (FK (D'.out.below b0 hm) (by simp;omega) (by omega)).mono ?_
 rintro e w1 ⟨nb',A',L',c',he,rfl,hb1⟩
 cases he
 have hL:=HL.out
 have b1:=b0.trans (hb1.mono (by simp))
 have X:=HD.out.2.2.2.2.1.below b1 hm
 obtain ⟨n,hn⟩:∃ n,n=x.natAbs:=⟨_,rfl⟩
 rw [←hn] at hL HL hl X
 have HX:=li X
 have HN:=li hn
 have HB:=li b1
 clear X hn HD D' b0 hb1 b1
 by_cases hbig:2<L
 ·have hx:¬ (-9223372036854775808≤x∧x<9223372036854775808):=by
   intro h
   have:(Ab n).length≤2:=AC (by have:=HN.out;omega)
   omega
  have HV:=li (Vf hx)
  have hbi:(2:Int)<(L:Int):=by omega
  clear hx hL
  exact Aoy
 ·have hbi:decide ((2:Int)<(L:Int))=false:=decide_eq_false (by omega)
  have hpu:=YO A (Ab n) c m w1 HX.out (Ay n) (by omega)
  rw [←hL,Am] at hpu
  have hn64:n<18446744073709551616:=by
   have h1:=BE (Ay n)
   rw [Am] at h1
   have h3:4294967296 ^ (Ab n).length≤4294967296 ^ 2:=ap (by decide) (by omega)
   omega
  have HPU:=li hpu
  have hbn:¬ (2:Int)<(L:Int):=by omega
  have hbl:(L:Int)≤2:=by omega
  clear hpu hL hbig
  go_wp2_with fail
  go_at_call 249
  refine HPU.out.mono ?_
  rintro e wq ⟨rfl,rfl⟩
  cases nb with
  | true =>
   have hx:x<0:=by simpa using HNB.out.symm
   by_cases h63:n≤9223372036854775808
   ·have HV:=li (Nc (x:=x) (by have:=HN.out;omega))
    have hd:decide ((n:Int)≤9223372036854775808)=true:=decide_eq_true (by omega)
    have hxe:x = -(n:Int):=by have:=HN.out;omega
    have hmp:(1:Int)≤(n:Int):=by omega
    have HXE:=li hxe
    clear hx hxe
    go_wp2_with fail
    exact bodyPost_ret (v:=.tuple #[.int .i64 x,.bool true]) (by simp [results,results210,go_sem];rw [HXE.out];first|(rw [et];unfold wrap64;omega)|(show IntKind.i64.wrap _=_;rw [et,gh];omega)) rfl ⟨by rw [HV.out.1,HV.out.2],HB.out⟩
   ·have HV:=li (Vf (x:=x) (by have:=HN.out;omega))
    have hd:decide ((n:Int)≤9223372036854775808)=false:=decide_eq_false (by omega)
    clear hx
    exact Aoy
  | false =>
   have hx:0≤x:=by simpa using HNB.out.symm
   by_cases h63:n<9223372036854775808
   ·have HV:=li (Nc (x:=x) (by have:=HN.out;omega))
    have hd:decide ((n:Int)<9223372036854775808)=true:=decide_eq_true (by omega)
    have hxe:x=(n:Int):=by have:=HN.out;omega
    have HXE:=li hxe
    clear hx hxe
    go_wp2_with fail
    exact bodyPost_ret (v:=.tuple #[.int .i64 x,.bool true]) (by simp [results,results210,go_sem];rw [HXE.out]) rfl ⟨by rw [HV.out.1,HV.out.2],HB.out⟩
   ·have HV:=li (Vf (x:=x) (by have:=HN.out;omega))
    have hd:decide ((n:Int)<9223372036854775808)=false:=decide_eq_false (by omega)
    clear hx
    exact Aoy
theorem Ako {a:Nat} (h:WdR w m v a) (h2:WdR w m v2 b) (hm:m≤w.heap.size) (l1:(Ab a).length≤90000) (l2:(Ab b).length≤90000) :
  Calls prog 73 #[v,v2] w fun e w'=>∃ v',e=.returned v'∧WdR w' w'.heap.size v' (a+b)∧Below w.heap.size w w':=by
 obtain ⟨A,c,rfl,_,_,h3⟩:=h
 obtain ⟨B,c',rfl,_,_,h4⟩:=h2
 have hc:=Acv A B (Ab a) (Ab b) c c' m w hm h3 h4 (Ay a) (Ay b) l1 l2
 rw [Am,Am] at hc
 refine hc.mono ?_
 rintro e w' ⟨G,g,rfl,hG,hg,hC,hb⟩
 exact ⟨_,rfl,⟨G,g,rfl,hG,hg,hC⟩,hb⟩
theorem Akp (hx:x % 2=1) (hk:0<k):Ml x.natAbs k=true:=by
 unfold Ml
 refine decide_eq_true ?_
 intro h0
 obtain ⟨j,rfl⟩:∃ j,k=j+1:=⟨k - 1,by omega⟩
 have h1:2 ∣ x.natAbs:=Nat.dvd_trans ⟨2 ^ j,by rw [bg,aq]⟩ (Nat.dvd_of_mod_eq_zero h0)
 omega
theorem GP:Ab 1=[1]:=by rw [CG (by decide),show 1 / 4294967296=0 by decide,AF]
theorem Iw:(Ab 1).length=1:=by rw [GP];rfl
theorem YP (w:World):WdR (w.alloc (.cells #[.int .u32 1] 126)) (w.heap.size+1) (.slice (some ⟨w.heap.size,0,none⟩) 1 1) 1 :=
 ⟨some ⟨w.heap.size,0,none⟩,1,by rw [GP];rfl,by simp,by rw [GP];decide,by
  rw [GP]
  exact (Bz.new_ w [.int .u32 1] 126).cells_ (kg _)⟩
theorem Lh {v5:Value} (h2:tmps.getD 4 undef=.pointer (some ⟨b,0,none⟩)) (h5:tmps.getD 5 undef=v5) (hB:Bz w b [v0,v1,v2] 43) :
  (results Tryz.f22 tmps).run prog w=.ok (.tuple #[.agg #[v0,v1,v2],v5]) w:=by
 have k0:=hB.cell 0
 have k1:=hB.cell 1
 have k2:=hB.cell 2
 simp at k0 k1 k2
 simp at h2 h5
 simp [results,results22,go_sem,h2,h5,k0,k1,k2]
theorem Pc (D:DyR w lo m v x d) (hm:m≤w.heap.size) (hl:(Ab x.natAbs).length≤50000) (hden:den≤65536) (ht:Ah w) :
  Calls prog 22 #[v,.int .i64 (den:Int)] w fun e w'=>∃ v',e=.returned (.tuple #[v',.nilIface])∧DyR w' w.heap.size w'.heap.size v' (Bg x d den).1 (Bg x d den).2∧Below w.heap.size w w':=by
 have n1:decide ((den:Int)<0)=false:=decide_eq_false (by omega)
 have n2:decide ((65536:Int)<(den:Int))=false:=decide_eq_false (by omega)
 have n3:¬ (den:Int)<0:=by omega
 have n4:¬ (65536:Int)<(den:Int):=by omega
 have hdr:=D.bound
 have hd6:=hdr.1
 have HDR:=li hdr.2
 clear hdr
 by_cases hle:d≤den
 ·as_aux_lemma =>
  have HV:=li (show Bg x d den=(x,d) from if_pos hle)
  have n5:(d:Int)≤(den:Int):=by omega
  obtain ⟨nb,A,L,c,rfl,HD⟩:=D.form
  have D':=li D
  have HT:=li ht
  clear D ht
  have b0:Below w.heap.size w ((w.alloc (.cells #[.bool nb,.slice A L c,.int .i64 (d:Int)] 43)).alloc (.cells #[.bool false,.slice none 0 0,.int .i64 0] 43)):=Ao (Ao (ab _ _) _) _
  have r0:=Bz.new_ (w.alloc (.cells #[.bool nb,.slice A L c,.int .i64 (d:Int)] 43)) [.bool false,.slice none 0 0,.int .i64 0] 43
  rw [show (w.alloc (.cells #[.bool nb,.slice A L c,.int .i64 (d:Int)] 43)).heap.size=w.heap.size+1 by simp] at r0
  go_enter func22,ntmps22
  go_wp2_with fail
  go_at_call 69
  refine (FK (D'.out.below b0 hm) (by simp;omega) (by omega)).mono ?_
  rintro e w1 ⟨nb',A',L',c',he,rfl,hb1⟩
  cases he
  have r1:=r0.call hb1
  have b1:=b0.trans (hb1.mono (by simp;omega))
  have hw1:=r1.lt
  have HT1:=HT.out.below b1 HT.out.1
  have X1:=(D'.out.below b1 hm).words
  clear hb1 r0 b0
  go_wp2_with fail
  go_at_call 71
  refine (Ec (d:=d) X1 (by omega) (by omega) hd6 HT1).mono ?_
  rintro e w3 ⟨v',rfl,D3,hb3⟩
  rw [HD.out.1,Qf,Fb HDR.out,←HV.out] at D3
  have u1:=r1.call hb3
  have bv:=b1.trans (hb3.mono (by have:=b1.size;omega))
  obtain ⟨nb3,A3,L3,c3,rfl,_⟩:=D3.form
  have D3':=li D3
  clear D3 hb3 r1 b1
  have q0:w3.cell? ⟨w.heap.size+1,0,none⟩=some (.bool false):=u1.cell 0
  have q1:w3.cell? ⟨w.heap.size+1,1,none⟩=some (.slice none 0 0):=u1.cell 1
  have q2:w3.cell? ⟨w.heap.size+1,2,none⟩=some (.int .i64 0):=u1.cell 2
  have qf:=u1.free
  have hu1:=u1.lt
  go_wp2_with fail
  refine bodyPost_ret (Lh rfl rfl (((u1.set_ 0 _).set_ 1 _).set_ 2 _)) rfl ⟨_,rfl,?_,((bv.setCell (by simp) _).setCell (by simp) _).setCell (by simp) _⟩
  exact Akl
 ·as_aux_lemma =>
  have n5:¬ (d:Int)≤(den:Int):=by omega
  obtain ⟨k,hk⟩:∃ k:Nat,k=d - den:=⟨_,rfl⟩
  have HV:=li (show Bg x d den=nf (x / 2 ^ k) den by rw [hk];exact if_neg hle)
  have n6:(d:Int) - (den:Int)=(k:Int):=by omega
  have hk6:k≤1000000:=by omega
  have HC:=li (Akp (x:=x) (k:=k) (HDR.out (by omega)) (by omega))
  have hln:(Ab (x.natAbs / 2 ^ k)).length≤50000:=lT (AJ (ik _ _)) hl
  have hln1:(Ab (x.natAbs / 2 ^ k+1)).length≤100000:=by
   have h1:=Dx (x.natAbs / 2 ^ k) 1
   have h2:=Iw
   omega
  clear hk
  obtain ⟨nb,A,L,c,rfl,HD⟩:=D.form
  have D':=li D
  have HT:=li ht
  clear D ht
  have b0:Below w.heap.size w ((w.alloc (.cells #[.bool nb,.slice A L c,.int .i64 (d:Int)] 43)).alloc (.cells #[.bool false,.slice none 0 0,.int .i64 0] 43)):=Ao (Ao (ab _ _) _) _
  have r0:=Bz.new_ (w.alloc (.cells #[.bool nb,.slice A L c,.int .i64 (d:Int)] 43)) [.bool false,.slice none 0 0,.int .i64 0] 43
  rw [show (w.alloc (.cells #[.bool nb,.slice A L c,.int .i64 (d:Int)] 43)).heap.size=w.heap.size+1 by simp] at r0
  go_enter func22,ntmps22
  go_wp2_with fail
  go_at_call 69
  refine (FK (D'.out.below b0 hm) (by simp;omega) (by omega)).mono ?_
  rintro e w1 ⟨nb',A',L',c',he,rfl,hb1⟩
  cases he
  have r1:=r0.call hb1
  have b1:=b0.trans (hb1.mono (by simp;omega))
  have hw1:=r1.lt
  have HT1:=HT.out.below b1 HT.out.1
  have X1:=(D'.out.below b1 hm).words
  clear hb1 r0 b0
  go_wp2_with fail
  go_at_call 72
  refine (Qh X1 (by omega) (by omega) hk6).mono ?_
  rintro e w2 ⟨v2,rfl,Y,hb2⟩
  have r2:=r1.call hb2
  have b2:=b1.trans (hb2.mono (by have:=b1.size;omega))
  have HT2:=HT1.call hb2
  obtain ⟨A2,L2,c2,rfl⟩:=Y.form
  have hw2:=r2.lt
  clear hb2 r1 b1 HT1
  have hnb:=HD.out.1
  cases nb with
  | false =>
   as_aux_lemma =>
   have hx:0≤x:=by simpa using hnb.symm
   have HX:=li hx
   clear hnb hx
   go_wp2_with fail
   go_at_call 71
   refine (Ec (d:=den) Y (aa _) (by omega) hden HT2).mono ?_
   rintro e w3 ⟨v',rfl,D3,hb3⟩
   rw [AeQ HX.out,←HV.out] at D3
   have u1:=r2.call hb3
   have bv:=b2.trans (hb3.mono (by have:=b2.size;omega))
   obtain ⟨nb3,A3,L3,c3,rfl,_⟩:=D3.form
   have D3':=li D3
   clear D3 hb3 r2 b2
   have q0:w3.cell? ⟨w.heap.size+1,0,none⟩=some (.bool false):=u1.cell 0
   have q1:w3.cell? ⟨w.heap.size+1,1,none⟩=some (.slice none 0 0):=u1.cell 1
   have q2:w3.cell? ⟨w.heap.size+1,2,none⟩=some (.int .i64 0):=u1.cell 2
   have qf:=u1.free
   have hu1:=u1.lt
   go_wp2_with fail
   refine bodyPost_ret (Lh rfl rfl (((u1.set_ 0 _).set_ 1 _).set_ 2 _)) rfl ⟨_,rfl,?_,((bv.setCell (by simp) _).setCell (by simp) _).setCell (by simp) _⟩
   exact Akl
  | true =>
   as_aux_lemma =>
   have hx:x<0:=by simpa using hnb.symm
   have HX:=li hx
   clear hnb hx
   have BA:=al_ w2 (.cells #[.int .u32 1] 126)
   have r4:=r2.call BA
   have b4:=b2.trans (BA.mono (by have:=b2.size;omega))
   have HT4:=HT2.call BA
   have Y4:=(Y.below BA (aa _)).more (show w2.heap.size≤w2.heap.size+1 by omega)
   have O4:=YP w2
   clear BA Y r2 b2 HT2
   go_wp2_with fail
   go_at_call 73
   refine (Ako Y4 O4 (by simp) (by omega) (by rw [Iw];decide)).mono ?_
   rintro e w5 ⟨v5,rfl,Z,hb5⟩
   have r5:=r4.call hb5
   have b5:=b4.trans (hb5.mono (by have:=b4.size;omega))
   have HT5:=HT4.call hb5
   obtain ⟨A5,L5,c5,rfl⟩:=Z.form
   have hw5:=r5.lt
   clear hb5 r4 b4 HT4
   go_wp2_with fail
   go_at_call 71
   refine (Ec (d:=den) Z (aa _) (by omega) hden HT5).mono ?_
   rintro e w3 ⟨v',rfl,D3,hb3⟩
   rw [OZ HX.out HC.out,←HV.out] at D3
   have u1:=r5.call hb3
   have bv:=b5.trans (hb3.mono (by have:=b5.size;omega))
   obtain ⟨nb3,A3,L3,c3,rfl,_⟩:=D3.form
   have D3':=li D3
   clear D3 hb3 r5 b5
   have q0:w3.cell? ⟨w.heap.size+1,0,none⟩=some (.bool false):=u1.cell 0
   have q1:w3.cell? ⟨w.heap.size+1,1,none⟩=some (.slice none 0 0):=u1.cell 1
   have q2:w3.cell? ⟨w.heap.size+1,2,none⟩=some (.int .i64 0):=u1.cell 2
   have qf:=u1.free
   have hu1:=u1.lt
   go_wp2_with fail
   refine bodyPost_ret (Lh rfl rfl (((u1.set_ 0 _).set_ 1 _).set_ 2 _)) rfl ⟨_,rfl,?_,((bv.setCell (by simp) _).setCell (by simp) _).setCell (by simp) _⟩
   exact Akl
def Mb (P:Program) (ops:Array Oper) (Q:Exit→Act→World→Prop) (rest:List Oper):Exit→Act→World→Prop
 | .normal,a,w=>wpList P ops Q rest a w
 | e,a,w=>Q e a w
section
variable {P:Program} {md:Region.Mode} {Q:Exit→Act→World→Prop}
theorem Pd {ops:Array Oper}:∀ (f:Nat) (listed:Array Bool) (a:Act) (w:World),wpAny P md ops Q f listed a w→wpAny P md ops Q (f+1) listed a w
 | 0,listed,a,w,h=>⟨fun _=>h.2,by rw [h.1];intro i hi;cases hi⟩
 | f+1,listed,a,w,h=>⟨h.1,fun i hi=>wpOp_mono (fun a' w' h'=>Pd f _ a' w' h') (h.2 i hi)⟩
theorem Pe {ops:Array Oper} {g:Nat} {listed:Array Bool} {a:Act} {w:World} (h:wpAny P md ops Q g listed a w):∀ f,wpAny P md ops Q (f+g) listed a w
 | 0=>by rw [bo];exact h
 | f+1=>by rw [show f+1+g=(f+g)+1 by omega];exact Pd _ _ _ _ (Pe h f)
def WZ (md:Region.Mode) (ops:Array Oper) (n:Nat):Bool:=(List.range n).all fun i=>match ops[i]? with
 | none=>false
 | some o=>(o.after.all fun e=>!Region.binds md e || decide (e.on<i)) && (match o.guard with|none=>true|some (g,_)=>decide (g<n))
def GR (N n:Nat):Array Bool:=((List.range N).map fun j=>decide (j<n)).toArray
def Li (md:Region.Mode) (ops:Array Oper) (n:Nat):Bool :=
 decide (n<ops.size) && Region.sinkB md ops n && Region.chainB md ops n && WZ md ops n && Region.seqB md ops (ops.size - n) n (GR ops.size n)
theorem Qi (h:WZ md ops n=true) (hi:i<n) (ho:ops[i]?=some o) :
  (∀ e∈o.after,Region.binds md e=true→e.on<i)∧(∀ g b,o.guard=some (g,b)→g<n):=by
 have h1:=List.all_eq_true.1 h i (List.mem_range.2 hi)
 simp only [ho,ai,Array.all_eq_true_iff_forall_mem,fa,Bool.not_eq_true',decide_eq_true_eq] at h1
 refine ⟨fun e he hb=>?_,fun g b hg=>?_⟩
 ·rcases h1.1 e he with h2|h2
  ·rw [h2] at hb;cases hb
  ·exact h2
 ·have h2:=h1.2
  rw [hg] at h2
  simpa using h2
theorem ES {listed:Array Bool} (hi:i<listed.size):listed.getD i true=listed.getD i false:=by simp [hi]
section
variable {l:List Oper} {n:Nat} {listed listed':Array Bool}
theorem Qj (hn:n<l.toArray.size) {i:Nat} (hi:i<n):(l.take n).toArray[i]?=l.toArray[i]?:=by
 simp [ci,hi]
theorem Pf (hb:WZ md l.toArray n=true) (hn:n<l.toArray.size) (hs:listed.size=l.toArray.size) (hs':listed'.size=n) (he:∀ i,i<n→listed'.getD i false=listed.getD i false) {i:Nat} (hi:i<n) :
  i∈Region.ready md (l.take n).toArray listed' ↔ i∈Region.ready md l.toArray listed:=by
 rw [mem_ready,mem_ready,Qj hn hi,ES (by omega),ES (by omega),he i hi]
 refine and_congr_right fun _=>exists_congr fun o=>and_congr_right fun ho=>?_
 have hk:=(Qi hb hi ho).1
 refine forall_congr' fun e=>forall_congr' fun hm=>forall_congr' fun hbd=>?_
 rw [he e.on (by have:=hk e hm hbd;omega)]
theorem Acx (h:i∈Region.ready md (l.take n).toArray listed'):i<n:=by
 obtain ⟨_,o,ho,_⟩:=mem_ready.1 h
 have:=(Array.getElem?_eq_some_iff.1 ho).1
 simp at this
 omega
theorem Xa (hb:WZ md l.toArray n=true) (hn:n<l.toArray.size) (hs':listed'.size=n) (hr:Region.ready md (l.take n).toArray listed'=[]):∀ i,i<n→listed'.getD i false=true:=by
 intro i
 induction i using Nat.strongRecOn with
 | _ i ih =>
  intro hi
  cases hl:listed'.getD i false with
  | true=>rfl
  | false =>
   exfalso
   have ho:l.toArray[i]?=some (l.toArray[i]'(by omega)):=io (by omega)
   have hk:=(Qi hb hi ho).1
   have:i∈Region.ready md (l.take n).toArray listed':=mem_ready.2 ⟨by rw [ES (by omega)];exact hl,_,(Qj hn hi).trans ho,fun e he hbd=>ih e.on (hk e he hbd) (by have:=hk e he hbd;omega)⟩
   rw [hr] at this
   cases this
theorem Ahb (inv:HeadInv md l.toArray n listed) (hn:n<l.toArray.size) (h:∀ i,i<n→listed.getD i false=true):listed=GR l.toArray.size n:=by
 refine Array.ext (by rw [inv.size];simp [GR]) fun i h1 h2=>?_
 have hi:i<l.toArray.size:=by rw [←inv.size];exact h1
 have e:(GR l.toArray.size n)[i]=decide (i<n):=by simp [GR]
 rw [e]
 by_cases hin:i<n
 ·have:=h i hin
  rw [decide_eq_true hin]
  simpa [h1] using this
 ·have:=inv.tail i (by omega) hi
  rw [decide_eq_false hin]
  simpa [h1] using this
theorem RL (h:LetsOut (Mb P ops Q rest)):LetsOut Q:=h
theorem Ahc {a:Act} {K K':Act→World→Prop} (hK:∀ a w,K a w→K' a w) (h:o.wp P a w K (Mb P ops Q rest)):o.wp P a w K' Q:=by
 unfold Oper.wp at *
 generalize (execOp a.eval o).run P w=r at *
 cases r with
 | ok n w' =>
  cases n <;> simp only [Oper.upon] at h ⊢ <;>
   first
    | exact hK _ _ h
    | exact Calls.mono h (fun e w'' he=>by cases e <;> first|exact hK _ _ he|exact he)
    | exact Rows.mono h (fun _ _ he=>hK _ _ he)
 | halt x w'=>cases x <;> simp only [Oper.upon] at h ⊢ <;> exact h
theorem TP (hb:WZ md l.toArray n=true) (hn:n<l.toArray.size) {i:Nat} {o:Oper} (hi:i<n) (ho:l.toArray[i]?=some o) (tmps:Array Value) :
  Region.wanted o (yielded (l.take n).toArray tmps)=Region.wanted o (yielded l.toArray tmps):=by
 have hg:=(Qi hb hi ho).2
 unfold Region.wanted
 cases h:o.guard with
 | none=>rfl
 | some gw =>
  obtain ⟨g,b⟩:=gw
  have e:yielded (l.take n).toArray tmps g=yielded l.toArray tmps g:=by
   unfold yielded
   rw [Qj hn (hg g b h)]
  simp only [e]
theorem YQ (hb:WZ md l.toArray n=true) (hn:n<l.toArray.size) {i:Nat} (hi:i<n) {rest:List Oper} {a:Act} {w:World} {K K':Act→World→Prop} (hK:∀ a w,K a w→K' a w)
  (h:wpOp P (l.take n).toArray (Mb P l.toArray Q rest) i K a w):wpOp P l.toArray Q i K' a w:=by
 have ho:l.toArray[i]?=some (l.toArray[i]'(by omega)):=io (by omega)
 unfold wpOp at *
 rw [Qj hn hi] at h
 simp only [ho] at h ⊢
 rw [TP hb hn hi ho] at h
 split
 ·rename_i hw
  rw [if_pos hw] at h
  rcases h with h|⟨h1,h2⟩
  ·exact .inl (Ahc hK h)
  ·exact .inr ⟨h1,RL h2⟩
 ·rename_i hw
  rw [if_neg hw] at h
  exact hK _ _ h
theorem Lj (hB:Li md l.toArray n=true):∀ (f:Nat) (listed listed':Array Bool) (a:Act) (w:World),HeadInv md l.toArray n listed→listed'.size=n→(∀ i,i<n→listed'.getD i false=listed.getD i false) →
  wpAny P md (l.take n).toArray (Mb P l.toArray Q (l.drop n)) f listed' a w→wpAny P md l.toArray Q (f+(l.toArray.size - n)) listed a w:=by
 simp only [Li,ai,decide_eq_true_eq] at hB
 obtain ⟨⟨⟨⟨hn,hs⟩,hc⟩,hb⟩,hq⟩:=hB
 have hend:∀ (listed listed':Array Bool) (a:Act) (w:World),HeadInv md l.toArray n listed→listed'.size=n→(∀ i,i<n→listed'.getD i false=listed.getD i false)→Region.ready md (l.take n).toArray listed'=[] →
   wpList P l.toArray Q (l.drop n) a w→wpAny P md l.toArray Q (l.toArray.size - n) listed a w:=fun listed listed' a w inv hs' he hr h=>by
  have hall:=Xa hb hn hs' hr
  have hl:=Ahb inv hn (fun i hi=>by rw [←he i hi];exact hall i hi)
  rw [hl]
  have:=wpAny_of_seq (md:=md) (Q':=Q) (P:=P) (l.drop n) n (GR l.toArray.size n) a w (fun j=>by simp [bq]) (by
   rw [show (l.drop n).length=l.toArray.size - n by simp];exact hq) h
  rwa [show (l.drop n).length=l.toArray.size - n by simp] at this
 intro f
 induction f with
 | zero =>
  intro listed listed' a w inv hs' he h
  rw [bo]
  exact hend listed listed' a w inv hs' he h.1 h.2
 | succ f ih =>
  intro listed listed' a w inv hs' he h
  by_cases hr:Region.ready md (l.take n).toArray listed'=[]
  ·exact Pe (hend listed listed' a w inv hs' he hr (h.1 hr)) _
  ·obtain ⟨i0,hi0⟩:=List.exists_mem_of_ne_nil _ hr
   have hin0:=Acx hi0
   have hr0:=(Pf hb hn inv.size hs' he hin0).1 hi0
   have hun0:=(mem_ready.1 hr0).1
   rw [show f+1+(l.toArray.size - n)=(f+(l.toArray.size - n))+1 by omega]
   refine ⟨fun h0=>(by rw [h0] at hr0;cases hr0),fun i hi=>?_⟩
   have hin:i<n:=Nat.lt_of_not_le fun hle=>tail_waits hs hc hn inv _ i0 rfl hin0 hun0 i hle hi
   refine YQ hb hn hin (fun a' w' h'=>?_) (h.2 i ((Pf hb hn inv.size hs' he hin).2 hi))
   refine ih _ _ a' w' (inv.set hi hin) (by simp [hs']) (fun j hj=>?_) h'
   by_cases hij:i=j
   ·subst hij
    rw [gj,gj,Array.getElem?_setIfInBounds_self_of_lt (by omega),Array.getElem?_setIfInBounds_self_of_lt (by rw [inv.size];omega)]
   ·rw [getD_set_ne false hij,getD_set_ne false hij]
    exact he j hj
theorem Fc {id:Nat} {a:Act} (n:Nat) (hm:P.follows .mixedOrders=true) (hB:Li .any l.toArray n=true)
  (h:wpAny P .any (l.take n).toArray (Mb P l.toArray Q (l.drop n)) n (Array.replicate n false) a w.drew):(Code.region id l.toArray true).wp P Q a w:=by
 have hB0:=hB
 simp only [Li,ai,decide_eq_true_eq] at hB0
 have hn:=hB0.1.1.1.1
 refine wp_region_any hm ?_
 have inv0:HeadInv .any l.toArray n (Array.replicate l.toArray.size false) :=
  ⟨by simp,fun j oj _ hl=>(by rw [getD_replicate_false] at hl;cases hl),fun t _ ht=>getD_in (by simpa using ht) (getD_replicate_false _ _)⟩
 have:=Lj hB n (Array.replicate l.toArray.size false) (Array.replicate n false) a w.drew inv0 (by simp) (fun i _=>by rw [getD_replicate_false,getD_replicate_false]) h
 rwa [show n+(l.toArray.size - n)=l.toArray.size by omega] at this
end
/- A statement whose order is left open, walked by hand, under a condition S on the world. -/
end
abbrev lj:=@Addr.add_mid
end Go.Proofs.YtmdfjbpggbhgnaaGreatDoor
