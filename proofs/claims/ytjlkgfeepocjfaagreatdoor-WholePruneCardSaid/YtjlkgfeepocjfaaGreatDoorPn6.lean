/- What the proofs of this claim share, part 6. No conditions. -/
import Derived.Test.YtjlkgfeepocjfaaGreatDoorPn3
import Derived.Test.YtjlkgfeepocjfaaGreatDoorPn5
import Derived.Test.YtjlkgfeepocjfaaGreatDoorPn4
import Derived.Test.YtjlkgfeepocjfaaGreatDoorRows
import Derived.Laws.AppendOwnNone
import Derived.Laws.OwnMore
import Derived.Laws.Bits64b
import Derived.Deep.RegionHeld3
import Derived.Deep.DeepCutAuto
import Derived.Lib.Hide
set_option maxHeartbeats 8000000
set_option maxRecDepth 100000
set_option linter.all false
open Go.Proofs.Tryz
namespace Go.Proofs.YtjlkgfeepocjfaaGreatDoor
open Go.RowKit Go.Deep
variable {W w w':World} {B L b base c c' cy d den g hi i k lo m n r t y z:Nat} {A:Option Addr} {a os ws xs:List Nat} {v v0 v1 v2:Value} {vs:List Value} {neg:Bool} {x:Int} {p:Prop} {ops:Array Oper} {rest:List Oper} {o:Oper} {tmps:Array Value}
def w32 (ws:List Nat):List Value:=ws.map fun n:Nat=>.int .u32 (n:Int)
theorem PP (ws:List Nat):(w32 ws).length=ws.length:=by simp [w32]
theorem Aj.w32_ (h:Aj w m A (w32 ws)) {k:Nat} (hk:k<ws.length) :
  ∃ b off z,A=some ⟨b,off,none⟩∧b<m∧b<w.heap.size∧ws[k]?=some z∧w.cell? ⟨b,off+k,none⟩=some (.int .u32 (z:Int)):=by
 obtain ⟨b,off,hA,hbm,hbs,hc⟩:=h (fun h0=>by have:=PP ws;rw [h0] at this;simp at this;omega)
 exact ⟨b,off,ws[k],hA,hbm,hbs,gE hk,hc k _ (by simp [w32,hk])⟩
def Bc:List Nat→Nat
 | []=>0
 | x::l=>x+4294967296*Bc l
def Az (ws:List Nat):Prop:=∀ x∈ws,x<4294967296
def Fp (ws:List Nat):Nat→Nat
 | 0=>0
 | n+1=>if ws[n]?.getD 0=0 then Fp ws n else n+1
def Nh (ws:List Nat):List Nat:=ws.take (Fp ws ws.length)
theorem Mh (ws:List Nat) (n:Nat):Fp ws n≤n:=by
 induction n with
 | zero=>exact aa _
 | succ n ih =>
  unfold Fp
  split <;> omega
theorem EW (ws:List Nat):(Nh ws).length=Fp ws ws.length:=by
 have:=Mh ws ws.length
 simp [Nh]
 omega
theorem CC (a b:List Nat):Bc (a++b)=Bc a+4294967296 ^ a.length*Bc b:=by
 induction a with
 | nil=>simp [Bc]
 | cons x a ih =>
  simp only [List.cons_append,Bc,cq,ih,ce,fe]
  rw [gr,ay (4294967296 ^ a.length) 4294967296,aw]
theorem Vv (ws:List Nat):∀ n,n≤ws.length→Bc (ws.take (Fp ws n))=Bc (ws.take n)
 | 0,_=>rfl
 | n+1,h=>by
  unfold Fp
  split
  ·rename_i h0
   rw [Vv ws n (by omega),ak,CC]
   have:ws[n]?=some ws[n]:=gE (by omega)
   rw [this] at h0 ⊢
   simp at h0
   simp [Bc,h0]
  ·rfl
theorem AcW (ws:List Nat):Bc (Nh ws)=Bc ws:=by
 have:=Vv ws ws.length (aa _)
 rw [az] at this
 exact this
theorem Zr (ws:List Nat):∀ n,n≤ws.length→0<Fp ws n→ws[Fp ws n - 1]?.getD 0≠0
 | 0,_,h=>by simp [Fp] at h
 | n+1,hn,h=>by
  unfold Fp at h ⊢
  split at h
  ·rename_i h0
   rw [if_pos h0]
   exact Zr ws n (by omega) h
  ·rename_i h0
   rw [if_neg h0]
   simpa using h0
def Auf (w:World) (ws:List Nat) (i:Value) (wr:World):Prop:=∃ k:Nat,k≤ws.length∧i=.int .i64 k∧Fp ws k=Fp ws ws.length∧w=wr
theorem ApV:(prog.info? 143).map (fun i=>(i.zero,i.size,i.bytes))=some (some (.int .u32 0),1,4):=by kernel_rfl
theorem Tw:prog.underlying 41=some (.slice 143):=by kernel_rfl
def Hf (w:World) (base:Nat) (v:Value) (xs:List Nat):Prop:=w.ownsRow base 143 1 v xs.length (w32 xs)
theorem Hf.nil_ (w:World) (base:Nat):Hf w base (.slice none 0 0) []:=jn w base _ _
theorem Hf.view (h:Hf w base v xs):∃ A c,v=.slice A xs.length c∧(A=none→c=0)∧Aj w w.heap.size A (w32 xs):=by
 rcases h.2 with ⟨rfl,h0⟩|⟨g,cap,cur,rfl,hb,hg,hn,hm,hs,ht⟩
 ·have:xs=[]:=bj h0
  subst this
  exact ⟨none,0,rfl,fun _=>rfl,Aj.nil_⟩
 ·have hlt:=(World.ownsRow.lt h g rfl).2
  refine ⟨some ⟨g,0,none⟩,cap,rfl,by simp,fun _=>⟨g,0,rfl,hlt,hlt,fun j u hu=>?_⟩⟩
  have:=World.ownsRow.cells h (g:=g) rfl j u hu
  rcases j with _|j
  ·simpa [Addr.add] using this
  ·simpa [Addr.add] using this
theorem Hf.drew (h:Hf w base v xs):Hf w.drew base v xs:=h
theorem Hf.drewN (h:Hf w base v xs) (n:Nat):Hf (w.drewN n) base v xs:=by
 induction n generalizing w with
 | zero=>exact h
 | succ n ih=>exact ih (w:=w.drew) h.drew
def Ad (n:Nat):List Nat:=if h:n=0 then [] else n % 4294967296::Ad (n / 4294967296)
termination_by n
decreasing_by exact Nat.div_lt_self (by omega) (by decide)
theorem Bf:Ad 0=[]:=by rw [Ad];simp
theorem Eo (h:n≠0):Ad n=n % 4294967296::Ad (n / 4294967296):=by rw [Ad];simp [h]
theorem Bd (n:Nat):Az (Ad n):=by
 induction n using Nat.strongRecOn with
 | _ n ih =>
  by_cases h:n=0
  ·subst h;rw [Bf];intro x hx;cases hx
  ·rw [Eo h]
   intro x hx
   rcases List.mem_cons.1 hx with rfl|hx
   ·omega
   ·exact ih _ (Nat.div_lt_self (by omega) (by decide)) x hx
theorem AI (n:Nat):Bc (Ad n)=n:=by
 induction n using Nat.strongRecOn with
 | _ n ih =>
  by_cases h:n=0
  ·subst h;rw [Bf];rfl
  ·rw [Eo h]
   simp only [Bc]
   rw [ih _ (Nat.div_lt_self (by omega) (by decide))]
   omega
theorem AcX (h:Bc ws=0):∀ x∈ws,x=0:=by
 induction ws with
 | nil=>simp
 | cons x l ih =>
  simp only [Bc] at h
  intro y hy
  rcases List.mem_cons.1 hy with rfl|hy
  ·omega
  ·exact ih (by omega) y hy
theorem RZ (h:Az ws) (ht:ws≠[]→ws[ws.length - 1]?.getD 0≠0):Ad (Bc ws)=ws:=by
 induction ws with
 | nil=>exact Bf
 | cons x l ih =>
  have hx:=h x (by simp)
  have htop:=ht (by simp)
  have hl:Ad (Bc l)=l:=ih (fun y hy=>h y (by simp [hy])) (fun hne=>by
   have hp:0<l.length:=List.length_pos_iff.2 hne
   have e:(x::l)[(x::l).length - 1]?=l[l.length - 1]?:=by
    rw [show (x::l).length - 1=(l.length - 1)+1 by simp;omega]
    rfl
   rw [e] at htop
   exact htop)
  have hne:Bc (x::l)≠0:=fun h0=>by
   have hz:=AcX h0
   apply htop
   have:(x::l)[(x::l).length - 1]?=some ((x::l)[(x::l).length - 1]'(by simp)):=gE _
   rw [this]
   exact hz _ (ff _)
  rw [Eo hne]
  simp only [Bc]
  rw [show (x+4294967296*Bc l) % 4294967296=x by omega,show (x+4294967296*Bc l) / 4294967296=Bc l by omega,hl]
theorem Gk (h:Az ws):Nh ws=Ad (Bc ws):=by
 rw [←AcW ws]
 refine (RZ (fun x hx=>h x (eh hx)) (fun hne=>?_)).symm
 have hne:Nh ws≠[]:=hne
 show (Nh ws)[(Nh ws).length - 1]?.getD 0≠0
 have hl:=EW ws
 have hp:0<(Nh ws).length:=List.length_pos_iff.2 hne
 have ht:=Zr ws ws.length (aa _) (by omega)
 rw [hl]
 show (ws.take (Fp ws ws.length))[Fp ws ws.length - 1]?.getD 0≠0
 rw [bq,if_pos (by omega)]
 exact ht
theorem AC (h:n<4294967296 ^ k):(Ad n).length≤k:=by
 induction k generalizing n with
 | zero =>
  have:n=0:=by simpa using h
  subst this
  rw [Bf]
  simp
 | succ k ih =>
  by_cases h0:n=0
  ·subst h0;rw [Bf];simp
  ·rw [Eo h0]
   have:=ih (n:=n / 4294967296) (by rw [ce] at h;exact Nat.div_lt_of_lt_mul (by rw [ay];exact h))
   simp
   omega
theorem Hf.cap_ (h:Hf w base (.slice A n c) xs):n=xs.length∧n≤c∧(A=none→c=0)∧Aj w w.heap.size A (w32 xs):=by
 have h2:=h.2
 obtain ⟨A',c',he,h1,h3⟩:=h.view
 cases he
 refine ⟨rfl,?_,h1,h3⟩
 rcases h2 with ⟨h0,hn⟩|⟨g,cap,cur,h0,hb,hg,hn,hm,hs,ht⟩
 ·omega
 ·cases h0
  omega
theorem Bg (a:List Nat) (k:Nat):Bc (a.take (k+1))=Bc (a.take k)+4294967296 ^ k*(a[k]?.getD 0):=by
 rw [ak,CC]
 by_cases h:k<a.length
 ·rw [gE h,cj,ei (by omega)]
  simp [Bc]
 ·rw [fg (by omega)]
  simp [Bc]
theorem AlV {b:List Nat} {x:Nat} (hol:os.length=k) (hx:a[k]?.getD 0=x) (hy:b[k]?.getD 0=y) (hv:Bc os+4294967296 ^ k*cy=Bc (a.take k)+Bc (b.take k)) (hz:z+4294967296*c'=cy+x+y) :
  Bc (os++[z])+4294967296 ^ (k+1)*c'=Bc (a.take (k+1))+Bc (b.take (k+1)):=by
 rw [Bg a,Bg b,hx,hy,CC,hol,ce,aw]
 have e1:Bc [z]=z:=by simp [Bc]
 rw [e1]
 have e2:4294967296 ^ k*z+4294967296 ^ k*(4294967296*c')=4294967296 ^ k*cy+4294967296 ^ k*x+4294967296 ^ k*y:=by
  rw [←fe,hz,fe,fe]
 omega
theorem IC (h:Az os) (hz:z<4294967296):Az (os++[z]):=by
 intro q hq
 rcases List.mem_append.1 hq with hq|hq
 ·exact h q hq
 ·simp at hq
  omega
theorem Aj.takeW (h:Aj w m A (w32 ws)) (n:Nat):Aj w m A (w32 (ws.take n)):=fun hx=>by
 have e:w32 (ws.take n)=(w32 ws).take n:=by simp [w32]
 obtain ⟨b,off,hA,hbm,hbs,hc⟩:=h (fun h0=>hx (by rw [e,h0];simp))
 refine ⟨b,off,hA,hbm,hbs,fun j u hu=>hc j u ?_⟩
 rw [e,bq] at hu
 split at hu
 ·exact hu
 ·cases hu
theorem Co (h:Az ws):Bc ws<4294967296 ^ ws.length:=by
 induction ws with
 | nil=>simp [Bc]
 | cons x l ih =>
  have h1:=h x (by simp)
  have h2:=ih (fun y hy=>h y (by simp [hy]))
  simp only [Bc,cq,ce]
  omega
theorem Sa {x:Nat} (h:ws[k]?=some x):Bc ws=Bc (ws.take k)+4294967296 ^ k*(x+4294967296*Bc (ws.drop (k+1))):=by
 have hk:=(gS.1 h).1
 have hx:=(gS.1 h).2
 have e:ws=ws.take k++x::ws.drop (k+1):=by
  rw [←hx,←dm hk,gh]
 have hl:(ws.take k).length=k:=by rw [cj];omega
 conv=>lhs;rw [e]
 rw [CC,hl]
 rfl
theorem Vw {K T1 T2 x D:Nat} (h1:T1<K) (h:x<y):T1+K*(x+D)<T2+K*(y+D):=by
 have h2:K*(x+D+1)≤K*(y+D):=gu K (by omega)
 rw [fe,cz] at h2
 omega
theorem AlW {b:List Nat} {x:Nat} (oka:Az a) (okb:Az b) (hx:a[k]?=some x) (hy:b[k]?=some y) (hd:a.drop (k+1)=b.drop (k+1)) (hne:x≠y):decide (Bc a<Bc b)=decide (x<y):=by
 have ha:=Sa hx
 have hb:=Sa hy
 have hka:=(gS.1 hx).1
 have hkb:=(gS.1 hy).1
 have la:=Co (ws:=a.take k) (fun z hz=>oka z (eh hz))
 have lb:=Co (ws:=b.take k) (fun z hz=>okb z (eh hz))
 rw [cj,ei (by omega)] at la lb
 rw [hd] at ha
 rcases Nat.lt_or_gt_of_ne hne with h|h
 ·have:=Vw (T2:=Bc (b.take k)) (D:=4294967296*Bc (b.drop (k+1))) la h
  rw [←ha,←hb] at this
  rw [decide_eq_true this,decide_eq_true h]
 ·have:=Vw (T2:=Bc (a.take k)) (D:=4294967296*Bc (b.drop (k+1))) lb h
  rw [←ha,←hb] at this
  rw [decide_eq_false (by omega),decide_eq_false (by omega)]
def Aug (w:World) (a b:List Nat) (i:Value) (wr:World):Prop:=∃ k nq:Nat,k≤a.length∧i=.int .i64 ((k:Int) - 1)∧a.drop k=b.drop k∧w.drewN nq=wr
theorem AcY {b:List Nat} {x:Nat} (hx:a[k]?=some x) (hy:b[k]?=some x) (h:a.drop (k+1)=b.drop (k+1)):a.drop k=b.drop k:=by
 have hka:=(gS.1 hx)
 have hkb:=(gS.1 hy)
 rw [dm hka.1,dm hkb.1,hka.2,hkb.2,h]
structure DyOk (neg:Bool) (n:Nat) (den:Nat):Prop where
 zero:n=0→neg=false∧den=0
 fine:den≤65536
 odd:den≠0→n % 2=1
theorem Eh (h:n≠0):0<(Ad n).length:=by
 rw [Eo h]
 simp
theorem Abj (h:n≠0):(Ad n)[0]?=some (n % 4294967296):=by
 rw [Eo h]
 rfl
theorem Vx (h:n≠0):(Ad n)[(Ad n).length - 1]?.getD 0≠0:=by
 induction n using Nat.strongRecOn with
 | _ n ih =>
  rw [Eo h]
  by_cases h2:n / 4294967296=0
  ·rw [h2,Bf]
   simp
   omega
  ·have:=ih _ (Nat.div_lt_self (by omega) (by decide)) h2
   have hl:=Eh h2
   rw [show (n % 4294967296::Ad (n / 4294967296)).length - 1=((Ad (n / 4294967296)).length - 1)+1 by simp;omega]
   exact this
def BQ (w:World) (b:Nat) (vs:List Value) (t:TypeId):Prop:=w.heap[b]?=some (.cells vs.toArray t (0,0))
theorem BQ.lt (h:BQ w b vs t):b<w.heap.size:=(Array.getElem?_eq_some_iff.1 h).1
theorem BQ.new_ (w:World) (vs:List Value) (t:TypeId):BQ (w.alloc (.cells vs.toArray t)) w.heap.size vs t:=heap_alloc_new w _
theorem BQ.below (h:BQ w b vs t) (hb:Below B w w') (hB:b<B):BQ w' b vs t:=(hb.block b hB).trans h
theorem BQ.cell (h:BQ w b vs t) (j:Nat):w.cell? ⟨b,j,none⟩=vs[j]?:=by
 rw [cell_of_row w b j vs.toArray t (0,0) h]
 simp
theorem BQ.free (h:BQ w b vs t) (j:Nat):w.frozen? ⟨b,j,none⟩=false:=frozen_of_row w b j vs.toArray t h
theorem BQ.set_ (h:BQ w b vs t) (j:Nat) (u:Value):BQ (w.setCell ⟨b,j,none⟩ u) b (vs.set j u) t:=by
 have:=heap_setCell_same w b j vs.toArray t u h
 simpa [BQ] using this
theorem ApW {x s:Nat} (hc:c<2 ^ s) (hx:x<4294967296) (hs:s≤32):bits .or .u64 (c:Int) ((x*2 ^ s:Nat):Int)=((c+x*2 ^ s:Nat):Int):=by
 have h32:2 ^ s≤2 ^ 32:=ba (by decide) hs
 have hp:x*2 ^ s≤4294967295*2 ^ 32:=du (by omega) h32
 rw [bits_or_u64_nat c (x*2 ^ s) (by omega) (by omega)]
 have h:=Nat.two_pow_add_eq_or_of_lt hc x
 rw [Nat.or_comm,ay x,←h,Nat.add_comm]
theorem XL:(prog.info? 143).map (fun i=>(i.zero,i.size,i.bytes))=some (some (.int .u32 0),1,4):=by kernel_rfl
theorem Gl (q:Nat):Bc (List.replicate q 0)=0:=by
 induction q with
 | zero=>rfl
 | succ q ih=>rw [ky];simp [Bc,ih]
theorem XM (q:Nat):Az (List.replicate q 0):=fun x hx=>by
 have:=(List.mem_replicate.1 hx).2
 omega
theorem AlX {x p:Nat} (hc:cy<p) (hx:x<4294967296):(cy+x*p) / 4294967296<p:=by
 have h:x*p≤4294967295*p:=jo _ (by omega)
 omega
theorem AlY {q x p:Nat} (hol:os.length=q+k) (hx:a[k]?.getD 0=x) (hv:Bc os+4294967296 ^ (q+k)*cy=Bc (a.take k)*(4294967296 ^ q*p)) (hz:z+4294967296*c'=cy+x*p) :
  Bc (os++[z])+4294967296 ^ (q+(k+1))*c'=Bc (a.take (k+1))*(4294967296 ^ q*p):=by
 rw [Bg a,hx,CC,hol,bo,←hv]
 have e1:Bc [z]=z:=by simp [Bc]
 rw [e1,show q+(k+1)=(q+k)+1 by omega,ce 4294967296 (q+k),bh]
 have e2:4294967296 ^ q*4294967296 ^ k*z+4294967296 ^ q*4294967296 ^ k*(4294967296*c')=4294967296 ^ q*4294967296 ^ k*cy+4294967296 ^ q*4294967296 ^ k*(x*p):=by
  rw [←fe,hz,fe]
 have e3:4294967296 ^ k*x*(4294967296 ^ q*p)=4294967296 ^ q*4294967296 ^ k*(x*p):=by
  rw [ay (4294967296 ^ q) (4294967296 ^ k),aw,aw]
  congr 1
  rw [←aw,←aw,ay x]
 rw [e3,aw (4294967296 ^ q*4294967296 ^ k)]
 omega
theorem Vy (n:Nat):2 ^ n=4294967296 ^ (n / 32)*2 ^ (n % 32):=by
 have h:n=32*(n / 32)+n % 32:=by omega
 have e:(4294967296:Nat)=2 ^ 32:=by decide
 rw [e,←gx,←bh,←h]
theorem PQ (h:Az a) (i:Nat):Bc a / 4294967296 ^ i=Bc (a.drop i):=by
 by_cases hi:i≤a.length
 ·have e:=CC (a.take i) (a.drop i)
  rw [gh,cj,ei hi] at e
  have hl:=Co (ws:=a.take i) (fun x hx=>h x (eh hx))
  rw [cj,ei hi] at hl
  rw [e,iu _ _ (Nat.pow_pos (by decide)),gy hl,ax]
 ·rw [fu (by omega)]
  have hl:=Co h
  refine gy (au hl (ba (by decide) (by omega)))
theorem EL:Bc (a.drop i)=a[i]?.getD 0+4294967296*Bc (a.drop (i+1)):=by
 by_cases hi:i<a.length
 ·rw [dm hi,gE hi]
  rfl
 ·rw [fu (by omega),fu (by omega),fg (by omega)]
  rfl
theorem AlZ (n:Nat):2 ^ n=4294967296 ^ (n / 32)*2 ^ (n % 32):=Vy n
theorem Ty (h:Az a) (i:Nat):Bc a / 2 ^ i % 2=(a[i / 32]?.getD 0) / 2 ^ (i % 32) % 2:=by
 rw [AlZ i,←kz,PQ h,EL]
 generalize a[i / 32]?.getD 0=x
 generalize Bc (a.drop (i / 32+1))=y
 have e:(4294967296:Nat)=2 ^ (i % 32)*(2*2 ^ (31 - i % 32)):=by
  rw [←iv,←bh,show i % 32+(31 - i % 32).succ=32 by omega]
 rw [show 4294967296*y=2 ^ (i % 32)*(2*(2 ^ (31 - i % 32)*y)) by rw [←aw,←aw,aw (2 ^ (i % 32)),←e]]
 rw [iu _ _ (bt _)]
 omega
def AtT (v i:Nat):Bool:=decide (v % 2 ^ i≠0)
theorem Ama {x:Nat} (hr:r≤31):(x+4294967296*(y+4294967296*t)) / 2 ^ r % 4294967296=(x+y*4294967296) / 2 ^ r % 4294967296:=by
 have e:(4294967296:Nat)=2 ^ r*2 ^ (32 - r):=by rw [←bh,show r+(32 - r)=32 by omega]
 rw [show x+4294967296*(y+4294967296*t)=(x+y*4294967296)+2 ^ r*(4294967296*(2 ^ (32 - r)*t)) by
  have:4294967296*(4294967296*t)=2 ^ r*(4294967296*(2 ^ (32 - r)*t)):=by
   rw [←aw,←aw,←aw,ay (2 ^ r) 4294967296,aw 4294967296 (2 ^ r),←e]
  omega]
 rw [iu _ _ (bt _)]
 omega
theorem Amb (h:Az a) (hol:os.length=k) (hv:Bc os=Bc a / 2 ^ n % 4294967296 ^ k)
  (hz:z=(a[n / 32+k]?.getD 0+a[n / 32+k+1]?.getD 0*4294967296) / 2 ^ (n % 32) % 4294967296) :
  Bc (os++[z])=Bc a / 2 ^ n % 4294967296 ^ (k+1):=by
 rw [CC,hol,hv,ce,Nat.mod_mul]
 congr 1
 have e1:Bc [z]=z:=by simp [Bc]
 have e2:Bc a / 2 ^ n / 4294967296 ^ k=Bc (a.drop (n / 32+k)) / 2 ^ (n % 32):=by
  rw [←PQ h,bh,AlZ n]
  simp only [kz]
  congr 1
  rw [aw,aw,ay (2 ^ _)]
 rw [e1,e2,EL,EL,Ama (by omega),hz]
theorem ApX (h:Az a) (hk:a.length≤n / 32+k) (hv:Bc os=Bc a / 2 ^ n % 4294967296 ^ k):Bc os=Bc a / 2 ^ n:=by
 rw [hv]
 refine ia ?_
 have hl:=Co h
 refine (jp (bt _)).2 (au hl ?_)
 rw [AlZ n,←aw,←bh]
 refine lT (ba (by decide) (show a.length≤k+n / 32 by omega)) (Nat.le_mul_of_pos_right _ (bt _))
def nf (m:Int):Nat→Int × Nat
 | 0=>(m,0)
 | d+1=>if m % 2=0 then nf (m / 2) d else (m,d+1)
def sg (neg:Bool) (n:Nat):Int:=if neg=true then -(n:Int) else n
theorem AcZ (d:Nat):nf 0 d=(0,0):=by
 induction d with
 | zero=>rfl
 | succ d ih=>simp [nf,ih]
theorem Amc (m:Int) (d:Nat):(nf m d).2≤d:=by
 induction d generalizing m with
 | zero=>exact aa _
 | succ d ih =>
  unfold nf
  split
  ·have:=ih (m / 2);omega
  ·exact aa _
theorem Ada (m:Int) (d:Nat):(nf m d).2≠0→(nf m d).1 % 2=1:=by
 induction d generalizing m with
 | zero=>simp [nf]
 | succ d ih =>
  unfold nf
  split
  ·exact ih _
  ·intro _
   simp
   omega
theorem Ni {m:Int} (h:d≠0→m % 2=1):nf m d=(m,d):=by
 cases d with
 | zero=>rfl
 | succ d =>
  have:=h (by omega)
  simp [nf,this]
theorem Ahm (m:Int) (d:Nat):(nf m d).1*2 ^ d=m*2 ^ (nf m d).2:=by
 induction d generalizing m with
 | zero=>rfl
 | succ d ih =>
  unfold nf
  split
  ·rename_i h
   rw [Int.pow_succ,←bc,ih]
   have:m=m / 2*2:=by omega
   rw [bc,fv (2 ^ _) 2,←bc,←this]
  ·rfl
theorem Gm (m:Int) (d:Nat):(nf m d).1.natAbs≤m.natAbs:=by
 induction d generalizing m with
 | zero=>exact aa _
 | succ d ih =>
  unfold nf
  split
  ·have:=ih (m / 2);omega
  ·exact aa _
theorem PZ (neg:Bool) (n:Nat):(sg neg n).natAbs=n:=by
 unfold sg
 split <;> omega
theorem Aka (h:n≠0):decide (sg neg n<0)=neg:=by
 unfold sg
 cases neg <;> simp <;> omega
theorem Adb (m:Int):sg (decide (m<0)) m.natAbs=m:=by
 unfold sg
 by_cases h:m<0
 ·simp [h];omega
 ·simp [h];omega
theorem Amd (hk:k<den) (h:n / 2 ^ k % 2=0):nf (sg neg (n / 2 ^ k)) (den - k)=nf (sg neg (n / 2 ^ (k+1))) (den - (k+1)):=by
 rw [ce,←kz,show den - k=(den - (k+1))+1 by omega]
 generalize n / 2 ^ k=y at *
 show (if sg neg y % 2=0 then nf (sg neg y / 2) (den - (k+1)) else _)=_
 have e1:sg neg y % 2=0:=by unfold sg;split <;> omega
 have e2:sg neg y / 2=sg neg (y / 2):=by unfold sg;split <;> omega
 rw [if_pos e1,e2]
theorem Bt {a:Nat} (h:a≤b):(Ad a).length≤(Ad b).length:=by
 refine AC (ic h ?_)
 have:=Co (Bd b)
 rwa [AI] at this
def DyR (w:World) (lo hi:Nat) (v:Value) (x:Int) (d:Nat):Prop :=
 ∃ A c,v=.agg #[.bool (decide (x<0)),.slice A (Ad x.natAbs).length c,.int .i64 (d:Int)]∧(A=none→c=0)∧(Ad x.natAbs).length≤c∧Aj w hi A (w32 (Ad x.natAbs)) ∧
  (∀ a,A=some a→lo≤a.block)∧d≤65536∧(d≠0→x % 2=1)
theorem DyR.zero_ (w:World) (lo hi:Nat):DyR w lo hi (.agg #[.bool false,.slice none 0 0,.int .i64 0]) 0 0:=by
 refine ⟨none,0,?_,fun _=>rfl,?_,?_,by simp,by omega,by simp⟩
 ·rw [show (0:Int).natAbs=0 by rfl,Bf];rfl
 ·rw [show (0:Int).natAbs=0 by rfl,Bf];exact aa _
 ·rw [show (0:Int).natAbs=0 by rfl,Bf];exact Aj.nil_
theorem DyR.below (h:DyR w lo hi v x d) (hb:Below B w w') (hB:hi≤B):DyR w' lo hi v x d:=by
 obtain ⟨A,c,e,h1,h2,h3,h4,h5,h6⟩:=h
 exact ⟨A,c,e,h1,h2,h3.below hb hB,h4,h5,h6⟩
theorem DyR.more {hi':Nat} (h:DyR w lo hi v x d) (hB:hi≤hi'):DyR w lo hi' v x d:=by
 obtain ⟨A,c,e,h1,h2,h3,h4,h5,h6⟩:=h
 exact ⟨A,c,e,h1,h2,h3.more hB,h4,h5,h6⟩
theorem DyR.low {lo':Nat} (h:DyR w lo hi v x d) (hB:lo'≤lo):DyR w lo' hi v x d:=by
 obtain ⟨A,c,e,h1,h2,h3,h4,h5,h6⟩:=h
 exact ⟨A,c,e,h1,h2,h3,fun a ha=>lT hB (h4 a ha),h5,h6⟩
theorem Aj.setD {xs:List Value} (h:Aj w m A xs) {b j:Nat} (u:Value) (hA:∀ a:Addr,A=some a→a.block≠b):Aj (w.setCell ⟨b,j,none⟩ u) m A xs:=fun hx=>by
 obtain ⟨g,off,rfl,hbm,hbs,hc⟩:=h hx
 refine ⟨g,off,rfl,hbm,by simpa using hbs,fun i u hu=>?_⟩
 have hne:g≠b:=hA _ rfl
 rw [World.cell?_setCell_other _ _ _ _ (by first|(simp;omega)|simp_all)]
 exact hc i u hu
theorem DyR.set_ (h:DyR w lo hi v x d) (hb:b<lo) (j:Nat) (u:Value):DyR (w.setCell ⟨b,j,none⟩ u) lo hi v x d:=by
 obtain ⟨A,c,e,h1,h2,h3,h4,h5,h6⟩:=h
 exact ⟨A,c,e,h1,h2,h3.setD u (fun a ha h0=>by have:=h4 a ha;omega),h4,h5,h6⟩
theorem DyR.form (h:DyR w lo hi v x d):∃ nb A L c,v=.agg #[.bool nb,.slice A L c,.int .i64 (d:Int)] ∧
  Hid (nb=decide (x<0)∧L=(Ad x.natAbs).length∧(A=none→c=0)∧L≤c∧Aj w hi A (w32 (Ad x.natAbs))∧d≤65536∧(d≠0→x % 2=1)):=by
 obtain ⟨A,c,e,h1,h2,h3,h4,h5,h6⟩:=h
 exact ⟨_,A,_,c,e,mi ⟨rfl,rfl,h1,h2,h3,h5,h6⟩⟩
theorem Auh (h5:d≤65536) (h6:d≠0→x % 2=1):DyOk (decide (x<0)) x.natAbs d:=by
 refine ⟨fun h=>?_,h5,fun h=>by have:=h6 h;omega⟩
 have hx:x=0:=by omega
 subst hx
 refine ⟨by simp,?_⟩
 rcases co d with h|h
 ·exact h
 ·have:=h6 (by omega)
  omega
def sgI (x:Int):Int:=if x=0 then 0 else if x<0 then -1 else 1
theorem BQ.other_ (h:BQ w b vs t) {k:Nat} (hk:b≠k) (j:Nat) (u:Value):BQ (w.setCell ⟨k,j,none⟩ u) b vs t:=by
 unfold BQ
 rw [heap_setCell_other _ _ _ _ hk]
 exact h
theorem BQ.cells_ (h:BQ w b vs t) (hm:b<m):Aj w m (some ⟨b,0,none⟩) vs:=fun _=>⟨b,0,rfl,hm,h.lt,fun j u hu=>by
 have:=h.cell j
 rw [ax,this]
 exact hu⟩
theorem Ahn:Bc [lo,hi]=lo+4294967296*hi:=by simp [Bc]
theorem Aui (h1:lo<4294967296) (h2:hi<4294967296):Az [lo,hi]:=by
 intro x hx
 simp at hx
 omega
def OwnD (w:World) (r:Nat):Prop:=∃ v0 v1 v2,BQ w r [v0,v1,v2] 43
structure SK (W:World) (m r:Nat) (w:World):Prop where
 is:Below m W w
 fits:m≤w.heap.size
 own:OwnD w r
theorem SK.refl (h:m≤w.heap.size) (ho:OwnD w r):SK w m r w:=⟨ah _ _,h,ho⟩
theorem SK.drew (h:SK W m r w):SK W m r w.drew:=⟨h.is.drew,h.fits,h.own⟩
theorem BQ.call (h:BQ w b vs t) (hb:Below w.heap.size w w'):BQ w' b vs t:=h.below hb h.lt
theorem SK.call (h:SK W m r w) (hb:Below w.heap.size w w'):SK W m r w' :=
 ⟨h.is.trans (hb.mono h.fits),lT h.fits hb.size,let ⟨_,_,_,hr⟩:=h.own;⟨_,_,_,hr.call hb⟩⟩
theorem SK.set (h:SK W m r w) (hm:m≤r) (j:Nat) (u:Value):SK W m r (w.setCell ⟨r,j,none⟩ u):=by
 refine ⟨h.is.setCell hm u,by simpa using h.fits,?_⟩
 obtain ⟨v0,v1,v2,hr⟩:=h.own
 have h2:=hr.set_ j u
 rcases j with _|_|_|j
 ·exact ⟨_,_,_,h2⟩
 ·exact ⟨_,_,_,h2⟩
 ·exact ⟨_,_,_,h2⟩
 ·exact ⟨_,_,_,h2⟩
theorem SK.lt (h:SK W m r w):r<w.heap.size:=let ⟨_,_,_,hr⟩:=h.own;hr.lt
theorem SK.all (h:SK W m r w):(∀ b o,b<m→w.cell? ⟨b,o,none⟩=W.cell? ⟨b,o,none⟩)∧SK W m r w :=
 ⟨fun _ _ hb=>h.is.cell (p:=⟨_,_,none⟩) hb,h⟩
theorem SK.cells (h:SK W m r w):∃ v0 v1 v2,BQ w r [v0,v1,v2] 43∧w.cell? ⟨r,0,none⟩=some v0∧w.cell? ⟨r,1,none⟩=some v1∧w.cell? ⟨r,2,none⟩=some v2∧(∀ o,w.frozen? ⟨r,o,none⟩=false):=by
 obtain ⟨v0,v1,v2,hr⟩:=h.own
 exact ⟨v0,v1,v2,hr,hr.cell 0,hr.cell 1,hr.cell 2,hr.free⟩
theorem Mi (a b:Nat):(Ad (a+b)).length≤max (Ad a).length (Ad b).length+1:=by
 refine AC ?_
 have h1:=Co (Bd a)
 have h2:=Co (Bd b)
 rw [AI] at h1 h2
 have e1:4294967296 ^ (Ad a).length≤4294967296 ^ max (Ad a).length (Ad b).length:=ba (by decide) (by omega)
 have e2:4294967296 ^ (Ad b).length≤4294967296 ^ max (Ad a).length (Ad b).length:=ba (by decide) (by omega)
 rw [ce]
 have h0:0<4294967296 ^ max (Ad a).length (Ad b).length:=Nat.pow_pos (by decide)
 omega
theorem BO (a n:Nat):(Ad (a*2 ^ n)).length≤(Ad a).length+n / 32+1:=by
 refine AC ?_
 have h1:=Co (Bd a)
 rw [AI] at h1
 have e:2 ^ n≤4294967296 ^ (n / 32+1):=by
  rw [show (4294967296:Nat)=2 ^ 32 by decide,←gx]
  exact ba (by decide) (by omega)
 rw [gr,bh]
 exact au (jq h1 (bt _)) (gu _ e)
def WdR (w:World) (hi:Nat) (v:Value) (n:Nat):Prop:=∃ A c,v=.slice A (Ad n).length c∧(A=none→c=0)∧(Ad n).length≤c∧Aj w hi A (w32 (Ad n))
theorem WdR.below (h:WdR w hi v n) (hb:Below B w w') (hB:hi≤B):WdR w' hi v n:=by
 obtain ⟨A,c,e,h1,h2,h3⟩:=h
 exact ⟨A,c,e,h1,h2,h3.below hb hB⟩
theorem WdR.more {hi':Nat} (h:WdR w hi v n) (hB:hi≤hi'):WdR w hi' v n:=by
 obtain ⟨A,c,e,h1,h2,h3⟩:=h
 exact ⟨A,c,e,h1,h2,h3.more hB⟩
theorem WdR.form (h:WdR w hi v n):∃ A L c,v=.slice A L c:=by
 obtain ⟨A,c,e,_⟩:=h
 exact ⟨A,_,c,e⟩
theorem DyR.words {nb:Bool} (h:DyR w lo hi (.agg #[.bool nb,.slice A L c,.int .i64 (d:Int)]) x d):WdR w hi (.slice A L c) x.natAbs:=by
 obtain ⟨A',c',e,h1,h2,h3,_⟩:=h
 cases e
 exact ⟨_,_,rfl,h1,h2,h3⟩
def DV (x:Int) (dx:Nat) (y:Int) (dy:Nat):Int × Nat:=nf (x*2 ^ (max dx dy - dx)+y*2 ^ (max dx dy - dy)) (max dx dy)
theorem ApY (x:Int) (k:Nat):sg (decide (x<0)) (x.natAbs*2 ^ k)=x*2 ^ k:=by
 have e:((x.natAbs*2 ^ k:Nat):Int)=(x.natAbs:Int)*2 ^ k:=by simp
 unfold sg
 by_cases h:x<0
 ·have:(x.natAbs:Int) = -x:=by omega
  rw [if_pos (by simpa using h),e,this,ej,Int.neg_neg]
 ·have:(x.natAbs:Int)=x:=by omega
  rw [if_neg (by simpa using h),e,this]
theorem XN (x:Int) (k:Nat):(x*2 ^ k).natAbs=x.natAbs*2 ^ k:=by
 rw [fw,fx]
 rfl
def Cf (x:Int) (dx:Nat) (y:Int) (dy:Nat):Int:=sgI (DV x dx (-y) dy).1
def Fq (x:Int) (dx:Nat) (y:Int) (dy:Nat):Int × Nat:=if 0<Cf x dx y dy then (y,dy) else (x,dx)
def Ft (x:Int) (dx:Nat) (y:Int) (dy:Nat):Int × Nat:=if Cf x dx y dy<0 then (y,dy) else (x,dx)
theorem DyR.bound (h:DyR w lo hi v x d):d≤65536∧(d≠0→x % 2=1):=by
 obtain ⟨A,c,e,h1,h2,h3,h4,h5,h6⟩:=h
 exact ⟨h5,h6⟩
def Ac (x:Int) (d:Nat) (n:Int):Int × Nat :=
 if max (-65536) (min n 65536)<0 then nf x (d+(-(max (-65536) (min n 65536))).toNat) else nf (x*2 ^ (max (-65536) (min n 65536)).toNat) d
def BX (x:Int) (d den:Nat):Int × Nat:=if d≤den then (x,d) else nf (x / 2 ^ (d - den)) den
theorem ApZ (h:0≤x):sg false (x.natAbs / 2 ^ k)=x / 2 ^ k:=by
 obtain ⟨a,rfl⟩:=fh h
 show ((a / 2 ^ k:Nat):Int)=(a:Int) / 2 ^ k
 simp
theorem Abk (h:x<0) (hc:AtT x.natAbs k=true):sg true (x.natAbs / 2 ^ k+1)=x / 2 ^ k:=by
 obtain ⟨a,ha⟩:∃ a:Nat,x = -(a:Int):=⟨x.natAbs,by omega⟩
 subst ha
 rw [show (-(a:Int)).natAbs=a by omega] at hc ⊢
 unfold AtT at hc
 simp only [decide_eq_true_eq] at hc
 have hp:=bt k
 have e:=ek a (2 ^ k)
 have hm:=fy a hp
 show -((a / 2 ^ k+1:Nat):Int) = -(a:Int) / 2 ^ k
 have ec:((2 ^ k:Nat):Int)=2 ^ k:=by simp
 rw [←ec]
 generalize 2 ^ k=P at *
 have h1 : -(a:Int)=(P:Int)*(-((a / P+1:Nat):Int))+((P - a % P:Nat):Int):=by
  have e3:((P - a % P:Nat):Int)=(P:Int) - ((a % P:Nat):Int):=by omega
  have e4:(a:Int)=(P:Int)*((a / P:Nat):Int)+((a % P:Nat):Int):=by exact_mod_cast e.symm
  rw [e3]
  generalize a / P=u at *
  generalize a % P=v at *
  rw [e4,Int.mul_neg,show ((u+1:Nat):Int)=(u:Int)+1 by omega,Int.mul_add]
  omega
 rw [h1,Int.mul_add_ediv_left _ _ (by omega)]
 rw [Int.ediv_eq_zero_of_lt (by omega) (by omega)]
 omega
theorem Aqa {mm x:Nat} (hm:mm<4294967296) (hx:x<4294967296):bits .or .u64 ((mm:Int)*4294967296) (x:Int)=((x+4294967296*mm:Nat):Int):=by
 have h:=ApW (c:=x) (x:=mm) (s:=32) (by omega) hm (by omega)
 rw [show x+4294967296*mm=x+mm*2 ^ 32 by omega,←h]
 have e:((mm:Int)*4294967296)=((mm*2 ^ 32:Nat):Int):=by simp
 rw [e,bits_or_u64_nat _ _ (by omega) (by omega),bits_or_u64_nat _ _ (by omega) (by omega),Nat.or_comm]
theorem Gn (A:Option Addr) (ws:List Nat) (c m:Nat) (w:World) (h:Aj w m A (w32 ws)) (hc:ws.length≤c) (hl:ws.length≤36000000000000) :
  Calls prog 159 #[.slice A ws.length c] w fun e w'=>e=.returned (.slice A (Nh ws).length c)∧w=w':=by
 have H:=mi h
 clear h
 go_enter func159,ntmps159
 go_wp2_with fail
 go_loopw [3] (fun i wr=>Auf w ws i wr) (fun i _=>(intOf i).toNat)
 case atStart=>exact ⟨ws.length,aa _,rfl,rfl,rfl⟩
 case round =>
  obtain ⟨k,hk,rfl,ht,rfl⟩:=hrel
  have HT:=mi ht
  clear ht
  by_cases h0:k=0
  ·subst h0
   go_wp2_with fail
   go_ret
   refine ⟨?_,rfl⟩
   rw [EW,←HT.out]
   rfl
  ·obtain ⟨j,rfl⟩:=mc h0
   obtain ⟨b,off,z,rfl,hbm,hbs,hx,hcc⟩:=H.out.w32_ (k:=j) (by omega)
   have HX:=mi hx
   clear hx
   by_cases hz:z=0
   ·subst hz
    go_wp2_with fail
    have e1:Fp ws j=Fp ws ws.length:=by
     rw [←HT.out]
     show Fp ws j=if ws[j]?.getD 0=0 then Fp ws j else j+1
     rw [if_pos (by rw [HX.out];rfl)]
    exact ⟨⟨j,by omega,by go_num,e1,rfl⟩,by simp [intOf];try omega⟩
   ·have hz':((z:Int) == 0)=false:=by simp;omega
    go_wp2_with fail
    go_ret
    refine ⟨?_,rfl⟩
    have e1:j+1=Fp ws ws.length:=by
     rw [←HT.out]
     show j+1=if ws[j]?.getD 0=0 then Fp ws j else j+1
     rw [if_neg (by rw [HX.out];exact hz)]
    rw [EW,←e1]
    rfl
theorem Auj (h:p:=by
 go_enter func58,ntmps58
 go_wp2_with fail
 go_ret
 exact ⟨rfl,(ah _ w).alloc (aa _) _⟩):p:=h
theorem Abl (neg:Bool) (A:Option Addr) (n den c m:Nat) (w:World) (hm:m≤w.heap.size) (h:Aj w m A (w32 (Ad n))) (hl:(Ad n).length≤36000000000000) (ok:DyOk neg n den) :
  Calls prog 58 #[.agg #[.bool neg,.slice A (Ad n).length c,.int .i64 (den:Int)]] w fun e w'=>e=.returned (.bool true)∧Below w.heap.size w w':=by
 by_cases h0:n=0
 ·obtain ⟨rfl,rfl⟩:=ok.zero h0
  subst h0
  rw [Bf]
  clear h hl ok
  exact Auj
 ·have hp:=Eh h0
  have ht:=Vx h0
  obtain ⟨b,off,z,rfl,q1,q2,hz,g1⟩:=h.w32_ (k:=(Ad n).length - 1) (by omega)
  have hz0:((z:Int) != 0)=true:=by
   rw [hz] at ht
   simp at ht
   simp
   omega
  have g0:w.cell? ⟨b,off,none⟩=some (.int .u32 ((n % 4294967296:Nat):Int)):=by
   obtain ⟨b',off',z',hA,_,_,hz',g'⟩:=h.w32_ (k:=0) hp
   cases hA
   rw [Abj h0] at hz'
   cases hz'
   exact g'
  obtain ⟨L,hL⟩:∃ L,L=(Ad n).length - 1:=⟨_,rfl⟩
  obtain ⟨x,hx⟩:∃ x:Nat,x=n % 4294967296:=⟨_,rfl⟩
  have hlen:(Ad n).length=L+1:=by omega
  have hd:=ok.fine
  have ho:=ok.odd
  rw [←hx] at g0
  rw [←hL] at g1
  rw [hlen]
  have hl':L≤36000000000000:=by omega
  have e0:((L:Int)+1 == 0)=false:=by simp;omega
  have hodd:den≠0→(x:Int) % 2=1:=fun hne=>by have:=ho hne;omega
  clear h hl ok ho ht hz hL hx hlen hp h0
  by_cases hden:den=0
  ·subst hden
   clear hodd hd
   exact Auj
  ·have ho:=hodd hden
   have d0:((den:Int) == 0)=false:=by simp;omega
   have d1:decide ((den:Int)≤65536)=true:=decide_eq_true (by omega)
   clear hodd hden
   exact Auj
theorem GK (D:DyR w lo m v x d) (hm:m≤w.heap.size) (hl:(Ad x.natAbs).length≤36000000000000) :
  Calls prog 71 #[v] w fun e w'=>∃ nb A L c,v=.agg #[.bool nb,.slice A L c,.int .i64 (d:Int)]∧e=.returned (.tuple #[.bool nb,.slice A L c,.int .i64 (d:Int)])∧Below w.heap.size w w':=by
 have hok:=Auh D.bound.1 D.bound.2
 have D0:=mi D
 obtain ⟨A,c,rfl,h1,h2,h3,h4,h5,h6⟩:=D
 have H3:=mi h3
 have HOK:=mi hok
 have HL:=mi hl
 clear h3 hok hl h6 h4
 obtain ⟨nb,hnb⟩:∃ nb,nb=decide (x<0):=⟨_,rfl⟩
 rw [←hnb] at HOK D0 ⊢
 clear hnb
 have b0:Below w.heap.size w (w.alloc (.cells #[.bool nb,.slice A (Ad x.natAbs).length c,.int .i64 (d:Int)] 43)):=Au (ah _ _) _
 have r0:=BQ.new_ w [.bool nb,.slice A (Ad x.natAbs).length c,.int .i64 (d:Int)] 43
 go_enter func71,ntmps71
 go_wp2_with fail
 go_at_call 58
 refine (Abl nb A x.natAbs d c m _ (by simp;omega) (H3.out.below b0 hm) HL.out HOK.out).mono ?_
 rintro e w1 ⟨rfl,hb⟩
 have s0:=r0.below hb (by simp)
 have b1:=b0.trans (hb.mono (by simp))
 have k0:w1.cell? ⟨w.heap.size,0,none⟩=some (.bool nb):=s0.cell 0
 have k1:w1.cell? ⟨w.heap.size,1,none⟩=some (.slice A (Ad x.natAbs).length c):=s0.cell 1
 have k2:w1.cell? ⟨w.heap.size,2,none⟩=some (.int .i64 (d:Int)):=s0.cell 2
 clear hb r0 b0 s0
 go_wp2_with fail
 go_quiet (fail)
 go_wp2_with fail
 refine bodyPost_ret (v:=.tuple #[.bool nb,.slice A (Ad x.natAbs).length c,.int .i64 (d:Int)]) (by simp [results,results71,go_sem]) rfl ⟨nb,A,_,c,rfl,rfl,below_drewN b1 _⟩
theorem Auk (h:p:=by
 go_enter func28,ntmps28
 go_wp2_with fail
 go_at_call 71
 refine (GK (D0.out.below b0 hm) (by simp;omega) hl).mono ?_
 rintro e w1 ⟨nb',A',L',c',he,rfl,hb⟩
 cases he
 go_wp2_with fail
 go_ret
 exact ⟨by rw [HV.out];rfl,b0.trans (hb.mono (by simp))⟩):p:=h
theorem Adc (D:DyR w lo m v x d) (hm:m≤w.heap.size) (hl:(Ad x.natAbs).length≤36000000000000) :
  Calls prog 28 #[v] w fun e w'=>e=.returned (.int .i64 (sgI x))∧Below w.heap.size w w':=by
 obtain ⟨nb,A,L,c,rfl,HD⟩:=D.form
 have D0:=mi D
 have b0:Below w.heap.size w (w.alloc (.cells #[.bool nb,.slice A L c,.int .i64 (d:Int)] 43)):=Au (ah _ _) _
 clear D
 by_cases hx:x=0
 ·have hL:(L:Int)=0:=by have:=HD.out.2.1;rw [hx] at this;simp [Bf] at this;omega
  have hLb:((L:Int) == 0)=true:=by rw [hL];rfl
  have HV:=mi (show sgI x=0 by unfold sgI;rw [if_pos hx])
  have HL:=mi hL
  clear hL hx
  exact Auk
 ·have hL:(L:Int)≠0:=by have:=HD.out.2.1;have h2:=Eh (n:=x.natAbs) (by omega);omega
  have hLb:((L:Int) == 0)=false:=by rw [beq_eq_false_iff_ne];exact hL
  have hnb:=HD.out.1
  cases nb with
  | true =>
   have hx2:x<0:=by simpa using hnb.symm
   have HV:=mi (show sgI x = -1 by unfold sgI;rw [if_neg hx,if_pos hx2])
   clear hL hx hnb hx2
   exact Auk
  | false =>
   have hx2:¬ x<0:=by simpa using hnb.symm
   have HV:=mi (show sgI x=1 by unfold sgI;rw [if_neg hx,if_neg hx2])
   clear hL hx hnb hx2
   exact Auk
def Abm:List Int:=[0,1,28,2,29,14,24,3,30,22,20,15,25,17,4,8,31,27,13,23,21,19,16,7,26,12,18,6,11,5,10,9]
def An (w:World):Prop:=0<w.heap.size∧∀ j z,Abm[j]?=some z→w.cell? ⟨0,j,none⟩=some (.int .u8 z)
theorem An.below (h:An w) (hb:Below B w w') (hB:0<B):An w' :=
 ⟨au h.1 hb.size,fun j z hz=>(hb.cell (p:=⟨0,j,none⟩) hB).trans (h.2 j z hz)⟩
theorem An.call (h:An w) (hb:Below w.heap.size w w'):An w':=h.below hb h.1
theorem Aqb:∀ k:Nat,k<32→Abm[(2 ^ k*125613361 % 4294967296) / 134217728]?=some (k:Int):=by decide
theorem Add:∀ (n:Nat) {x:Nat},0<x→x<2 ^ n→∃ k,k<n∧x % 2 ^ k=0∧x / 2 ^ k % 2=1
 | 0,x,h,h2=>by simp at h2;omega
 | n+1,x,h,h2=>by
  by_cases hx:x % 2=1
  ·exact ⟨0,by omega,Nat.mod_one _,by simpa using hx⟩
  ·obtain ⟨k,hk,h3,h4⟩:=Add n (x:=x / 2) (by omega) (by rw [ce] at h2;omega)
   refine ⟨k+1,by omega,?_,?_⟩
   ·rw [iv,Nat.mod_mul]
    omega
   ·rw [iv,←kz]
    exact h4
theorem Ame {x:Nat} (hk:k<n) (hx:x<2 ^ n) (h1:x % 2 ^ k=0) (h2:x / 2 ^ k % 2=1):x &&& (2 ^ n - x)=2 ^ k:=by
 have hp:=bt k
 have e0:=ek x (2 ^ k)
 have hx0:0<x:=by
  rcases co x with h|h
  ·rw [h] at h2;simp at h2
  ·exact h
 have e:2 ^ n - x=2 ^ n - ((x - 1)+1):=by omega
 rw [e]
 apply Nat.eq_of_testBit_eq
 intro i
 rw [Nat.testBit_and,Nat.testBit_two_pow_sub_succ (by omega),Nat.testBit_two_pow]
 have hdiv:∀ y,y.testBit i=decide (y / 2 ^ i % 2=1):=fun y=>by rw [Nat.testBit_eq_decide_div_mod_eq]
 rw [hdiv,hdiv]
 rcases Nat.lt_trichotomy i k with hik|hik|hik
 ·have hz:x / 2 ^ i % 2=0:=by
   have es:2 ^ k=2 ^ i*(2*2 ^ (k - i - 1)):=by rw [←iv,←bh];congr 1;omega
   have:x=2 ^ i*(2*(2 ^ (k - i - 1)*(x / 2 ^ k))):=by
    rw [h1,dv] at e0
    rw [←aw 2,←aw,←es]
    exact e0.symm
   rw [this,me _ (bt i)]
   omega
  rw [decide_eq_false (show ¬ x / 2 ^ i % 2=1 by omega),decide_eq_false (show ¬ k=i by omega)]
  rfl
 ·subst hik
  have hq:(x - 1) / 2 ^ i % 2=0:=by
   obtain ⟨q,hq1⟩:∃ q,x / 2 ^ i=q+1:=mc (fun h=>by rw [h] at h2;simp at h2)
   rw [h1,dv,hq1,fe,cz] at e0
   have hxq:x - 1=(2 ^ i - 1)+2 ^ i*q:=by
    generalize 2 ^ i*q=r at *
    omega
   rw [hxq,iu _ _ hp,gy (show 2 ^ i - 1<2 ^ i by omega),ax]
   omega
  rw [decide_eq_true h2,decide_eq_false (show ¬ (x - 1) / 2 ^ i % 2=1 by omega),decide_eq_true hk]
  simp
 ·have hq:(x - 1) / 2 ^ i=x / 2 ^ i:=by
   have hm:0<x % 2 ^ i:=by
    rcases co (x % 2 ^ i) with h|h
    ·exfalso
     have es:2 ^ i=2 ^ k*(2*2 ^ (i - k - 1)):=by rw [←iv,←bh];congr 1;omega
     have e1:=ek x (2 ^ i)
     rw [h,dv,es] at e1
     rw [←e1,aw,me _ hp,aw] at h2
     omega
    ·exact h
   have e1:=ek x (2 ^ i)
   have hlt:=fy x (bt i)
   have hxq:x - 1=(x % 2 ^ i - 1)+2 ^ i*(x / 2 ^ i):=by omega
   rw [hxq,iu _ _ (bt i),gy (by omega),ax]
  rw [hq,decide_eq_false (show ¬ k=i by omega)]
  by_cases hb:x / 2 ^ i % 2=1
  ·rw [decide_eq_true hb];simp
  ·rw [decide_eq_false hb];rfl
theorem OK (a b:Nat) (ha:a<4294967296) (hb:b<4294967296):bits .and .u32 (a:Int) (b:Int)=((a &&& b:Nat):Int) :=
 (bits_nat .u32 32 (by decide) (fun n h0 h1=>by rw [lc];omega) a b (by omega) (by omega)).1
theorem Aqc (x k:Nat) (w:World) (hx:x<4294967296) (hk:k<32) (h1:x % 2 ^ k=0) (h2:x / 2 ^ k % 2=1) (ht:An w) :
  Calls prog 212 #[.int .u32 (x:Int)] w fun e w'=>e=.returned (.int .i64 (k:Int))∧w=w':=by
 have hx0:x≠0:=fun h=>by rw [h] at h2;simp at h2
 have hxb:((x:Int) == 0)=false:=by rw [beq_eq_false_iff_ne];omega
 have ha:=Ame (n:=32) hk (by omega) h1 h2
 obtain ⟨p,hp⟩:∃ p,p=2 ^ k:=⟨_,rfl⟩
 have hneg : -(x:Int) % 4294967296=((4294967296 - x:Nat):Int):=by omega
 have hand:bits .and .u32 (x:Int) (-(x:Int) % 4294967296)=(p:Int):=by
  rw [hneg,OK x _ hx (by omega),hp]
  exact congrArg _ ha
 obtain ⟨j,hj⟩:∃ j,j=(2 ^ k*125613361 % 4294967296) / 134217728:=⟨_,rfl⟩
 have hjj:(p:Int)*125613361 % 4294967296 / 134217728=(j:Int):=by rw [hj,←hp];omega
 have hj0:j<32:=by rw [hj];omega
 have hj32:(j:Int)<32:=by omega
 have hc:=ht.2 j k (by rw [hj];exact Aqb k hk)
 have h0:=ht.1
 have hk32:(k:Int)<256:=by omega
 clear h1 h2 ht ha hp hneg hj hk
 go_enter func212,ntmps212
 go_wp2_with fail
 go_ret
 exact ⟨rfl,rfl⟩
def Aqd (n z:Nat):Prop:=n % 2 ^ z=0∧n / 2 ^ z % 2=1
theorem Akb (k:Nat):2 ^ (32*k)=4294967296 ^ k:=by rw [gx]
theorem Aqe {x:Nat} (h:Az a) (h0:Bc (a.take k)=0) (hx:a[k]?.getD 0=x) (ht:t<32) (h1:x % 2 ^ t=0) (h2:x / 2 ^ t % 2=1):Aqd (Bc a) (32*k+t):=by
 refine ⟨?_,?_⟩
 ·rw [bh,Nat.mod_mul,Akb,PQ h]
  have e1:Bc a % 4294967296 ^ k=0:=by
   have e:=CC (a.take k) (a.drop k)
   rw [gh,h0,ax] at e
   by_cases hk:k≤a.length
   ·rw [cj,ei hk] at e
    rw [e]
    exact Nat.mul_mod_right _ _
   ·rw [fu (by omega)] at e
    rw [e]
    simp [Bc]
  rw [e1,EL,hx]
  have es:(4294967296:Nat)=2 ^ t*2 ^ (32 - t):=by rw [←bh,show t+(32 - t)=32 by omega]
  rw [es,aw,Nat.add_mul_mod_self_left,h1]
  simp
 ·rw [Ty h,show (32*k+t) / 32=k by omega,show (32*k+t) % 32=t by omega,hx]
  exact h2
theorem Amf (h:Aqd n z):n≠0:=fun h0=>by
 have:=h.2
 rw [h0] at this
 simp at this
def Aul (a:List Nat) (w:World) (i:Value) (wr:World):Prop:=∃ k:Nat,k≤a.length∧i=.int .i64 (k:Int)∧Bc (a.take k)=0∧w=wr
theorem Ade (A:Option Addr) (n c m:Nat) (w:World) (hm:m≤w.heap.size) (h:Aj w m A (w32 (Ad n))) (hl:(Ad n).length≤100000) (ht:An w) :
  Calls prog 160 #[.slice A (Ad n).length c] w fun e w'=>(∃ z:Nat,e=.returned (.int .i64 (z:Int))∧(n=0→z=1099511627776)∧(n≠0→Aqd n z∧z≤3200000))∧w=w':=by
 have H:=mi h
 have HT:=mi ht
 clear h ht
 go_enter func160,ntmps160
 go_wp2_with fail
 go_loopw [7] (fun i wr=>Aul (Ad n) w i wr) (fun i _=>(Ad n).length - (intOf i).toNat)
 case atStart=>exact ⟨0,af _,rfl,rfl,rfl⟩
 case round =>
  obtain ⟨k,hk,rfl,h0,rfl⟩:=hrel
  have H0:=mi h0
  clear h0
  by_cases hlt:k<(Ad n).length
  ·obtain ⟨b1,o1,x,rfl,q1,q2,hx,g1⟩:=H.out.w32_ hlt
   have bx:=Bd n x (gM hx)
   have HX:=mi (show (Ad n)[k]?.getD 0=x by rw [hx];rfl)
   have ka':(k:Int)<((Ad n).length:Int):=by omega
   have HXX:=mi hx
   clear hx
   by_cases hz:x=0
   ·subst hz
    go_wp2_with fail
    refine ⟨⟨k+1,by omega,by go_num,?_,rfl⟩,by simp [intOf];try omega⟩
    rw [Bg,H0.out,HX.out]
    simp
   ·obtain ⟨t,ht,h1,h2⟩:=Add 32 (x:=x) (by omega) (by omega)
    have hz':((x:Int) != 0)=true:=by simp;omega
    have H1:=mi h1
    have H2:=mi h2
    clear h1 h2
    go_wp2_with (go_at_call 212;refine (Aqc x t w bx ht H1.out H2.out HT.out).mono ?_;rintro e w1 ⟨rfl,rfl⟩)
    go_ret
    have hhit:=Aqe (Bd n) H0.out HX.out ht H1.out H2.out
    rw [AI] at hhit
    refine ⟨⟨32*k+t,?_,fun hn=>absurd hn (Amf hhit),fun _=>⟨hhit,by omega⟩⟩,rfl⟩
    have:((32*k+t:Nat):Int)=32*(k:Int)+(t:Int):=by omega
    rw [this]
    rfl
  ·have hle:¬ (k:Int)<((Ad n).length:Int):=by omega
   go_wp2_with fail
   go_ret
   refine ⟨⟨1099511627776,rfl,fun _=>rfl,fun hn=>?_⟩,rfl⟩
   exfalso
   have:=H0.out
   rw [am (by omega),AI] at this
   exact hn this
theorem Zs (A:Option Addr) (a:List Nat) (c i m:Nat) (w:World) (h:Aj w m A (w32 a)) (hi:i≤1000000) (hl:a.length≤1000000) :
  Calls prog 213 #[.slice A a.length c,.int .i64 (i:Int)] w fun e w'=>e=.returned (.int .u32 ((a[i]?.getD 0:Nat):Int))∧w=w':=by
 by_cases hlt:i<a.length
 ·obtain ⟨b1,o1,x,rfl,q1,q2,hx,g1⟩:=h.w32_ hlt
  have hil:(i:Int)<(a.length:Int):=by omega
  have HX:=mi (show a[i]?.getD 0=x by rw [hx];rfl)
  clear hx h
  go_enter func213,ntmps213
  go_wp2_with fail
  go_ret
  exact ⟨by rw [HX.out];rfl,rfl⟩
 ·have hil:¬ (i:Int)<(a.length:Int):=by omega
  have HX:=mi (show a[i]?.getD 0=0 by rw [fg (by omega)];rfl)
  clear h
  go_enter func213,ntmps213
  go_wp2_with fail
  go_ret
  exact ⟨by first|rfl|(rw [HX.out];rfl),rfl⟩
theorem Hp:prog.underlying 90=some (.slice 143):=by kernel_rfl
theorem Hf.put (h:Hf w base (.slice (some ⟨g,0,none⟩) n c) xs) (hn:n=xs.length) (j z:Nat):Hf (w.setCell ⟨g,j,none⟩ (.int .u32 (z:Int))) base (.slice (some ⟨g,0,none⟩) n c) (xs.set j z):=by
 subst hn
 have e:w32 (xs.set j z)=(w32 xs).set j (.int .u32 (z:Int)):=by simp [w32,gj]
 have h2:w.ownsRow base 143 1 (.slice (some ⟨g,0,none⟩) xs.length c) xs.length (w32 xs):=h
 have h3:=(World.ownsRow.stored h2 j (.int .u32 (z:Int))).1
 unfold Hf
 rw [e,dw]
 exact h3
theorem Hf.cellA {j:Nat} (h:Hf w base (.slice (some ⟨g,0,none⟩) n c) xs) (hz:xs[j]?=some z):w.cell? ⟨g,j,none⟩=some (.int .u32 (z:Int)):=by
 obtain ⟨A',c',he,_,hc⟩:=h.view
 cases he
 have hj:j<xs.length:=(gS.1 hz).1
 obtain ⟨b,off,z',hA,_,_,hx,hcc⟩:=hc.w32_ hj
 cases hA
 rw [hz] at hx
 cases hx
 simpa using hcc
theorem Hf.freeA (h:Hf w base (.slice (some ⟨g,0,none⟩) n c) xs) (hn:n=xs.length) (j:Nat):w.frozen? ⟨g,j,none⟩=false:=by
 subst hn
 have h2:w.ownsRow base 143 1 (.slice (some ⟨g,0,none⟩) xs.length c) xs.length (w32 xs):=h
 exact World.ownsRow.frozenAt h2 j
theorem Adf {w2:World} (h:w2.ownsRow base 143 1 (.slice (some ⟨g,0,none⟩) L L) L (madeCells (Value.int .u32 0).cells (L*1)).toList):Hf w2 base (.slice (some ⟨g,0,none⟩) L L) (List.replicate L 0):=by
 have e1:w32 (List.replicate L 0)=(madeCells (Value.int .u32 0).cells (L*1)).toList:=by
  rw [cz]
  have:=toList_madeCells_one (Value.int .u32 0) L
  simp only [w32,List.map_replicate]
  exact this.symm
 unfold Hf
 rw [e1,dz]
 exact h
theorem Adg (hl:os.length=k) (hk:k<L):(os++List.replicate (L - k) 0).set k z=(os++[z])++List.replicate (L - (k+1)) 0:=by
 rw [List.set_append_right _ _ (by omega),hl,em,show L - k=(L - (k+1))+1 by omega,ky,dc]
 simp
def Aum (w:World) (a:List Nat) (n q g L:Nat) (i:Value) (wr:World):Prop :=
 ∃ (k:Nat) (os:List Nat),k≤L∧i=.int .i64 (k:Int)∧Hf wr w.heap.size (.slice (some ⟨g,0,none⟩) L L) (os++List.replicate (L - k) 0)∧os.length=k∧Az os∧Bc os=Bc a / 2 ^ n % 4294967296 ^ k∧Below w.heap.size w wr
theorem ze4f (h:p:=by
 rw [hol] at hcall
 have HCALL:=mi hcall
 clear hkL hol hO hcall
 go_wp2_with (go_at_call 159;refine HCALL.out.mono ?_;rintro e w3 ⟨rfl,rfl⟩)
 go_ret
 have hcan:=Gk HOK.out
 rw [HWV.out] at hcan
 refine ⟨some ⟨g,0,none⟩,L,by rw [hcan];rfl,by simp,?_,?_,hb⟩
 ·rw [←hcan,EW]
  have:=Mh os os.length
  have:=HOL.out
  omega
 ·rw [←hcan]
  exact HGC.out.takeW _):p:=h
theorem Abn (A:Option Addr) (a:List Nat) (c n m:Nat) (w:World) (hm:m≤w.heap.size) (h1:Aj w m A (w32 a)) (ha:Az a) (l1:a.length≤100000) (hn:n≤1000000) :
  Calls prog 161 #[.slice A a.length c,.int .i64 (n:Int)] w fun e w' =>
   ∃ G g,e=.returned (.slice G (Ad (Bc a / 2 ^ n)).length g)∧(G=none→g=0)∧(Ad (Bc a / 2 ^ n)).length≤g∧Aj w' w'.heap.size G (w32 (Ad (Bc a / 2 ^ n)))∧Below w.heap.size w w':=by
 have H1:=mi h1
 have HA:=mi ha
 obtain ⟨q,hq⟩:∃ q,q=n / 32:=⟨_,rfl⟩
 have hqi:(n:Int) / 32=(q:Int):=by omega
 have HQ:=mi hq
 clear h1 ha
 by_cases hbig:a.length≤q
 ·have hz:Ad (Bc a / 2 ^ n)=[]:=by
   have hl:=Co HA.out
   rw [←Akb] at hl
   rw [gy (au hl (ba (by decide) (by omega))),Bf]
  have HZ:=mi hz
  have hbi:(a.length:Int)≤(q:Int):=by omega
  clear hz hq
  go_enter func161,ntmps161
  go_wp2_with fail
  go_ret
  exact ⟨none,0,by rw [HZ.out];rfl,fun _=>rfl,by rw [HZ.out];exact aa _,by rw [HZ.out];exact Aj.nil_,ah _ _⟩
 ·obtain ⟨L,hL⟩:∃ L,L=a.length - q:=⟨_,rfl⟩
  have hLi:(a.length:Int) - (q:Int)=(L:Int):=by omega
  have hbi:¬ (a.length:Int)≤(q:Int):=by omega
  have hL6:L≤100000:=by omega
  have HL:=mi hL
  obtain ⟨i0,hi,hz0,hz1,hz2⟩:=info_parts XL
  clear hbig hq hL
  go_enter func161,ntmps161
  go_wp2_with (with_reducible refine wpList_make_full _ rfl (.tmp 22) (.tmp 22) 90 rfl w.heap.size 143 i0 (.int .u32 0) 1 Hp hi hz0 hz1 .i64 .i64 _ _ L rfl rfl rfl rfl (by rw [hz2];omega) (by unfold maxLen;omega) (aa _) ?_;intro w2 hown hg)
  have hst:=(ah w.heap.size w).grown hg (aa _) (fun k h=>by simp at h)
  have hown2:=Adf hown
  obtain ⟨g,hg1⟩:∃ g,g=w.heap.size:=⟨_,rfl⟩
  have hgw:=mi hg1
  rw [←hg1]
  rw [show Hf w2 w.heap.size (.slice (some ⟨w.heap.size,0,none⟩) L L) (List.replicate L 0)=Hf w2 w.heap.size (.slice (some ⟨g,0,none⟩) L L) (List.replicate L 0) by rw [hg1]] at hown2
  clear hown hg hi hz0 hz1 hz2 hg1
  go_loopw [26] (fun i wr=>Aum w a n q g L i wr) (fun i _=>L - (intOf i).toNat)
  case atStart=>exact ⟨0,[],af _,rfl,by simpa using hown2,rfl,by simp [Az],by simp [Bc,Nat.mod_one],hst⟩
  case round =>
   as_aux_lemma =>
   obtain ⟨k,os,hk,rfl,hown,hol,hok,hv,hb⟩:=hrel
   have HO:=mi hown
   have HOL:=mi hol
   have HOK:=mi hok
   have HV:=mi hv
   have hsz:=hb.size
   have hlen:=mi (show L=(os++List.replicate (L - k) 0).length by simp;omega)
   clear hown hol hok hv hown2 hst
   by_cases hlt:k<L
   ·as_aux_lemma =>
    obtain ⟨u,hu⟩:∃ u,u=q+k:=⟨_,rfl⟩
    have hul:u<a.length:=by have:=HL.out;omega
    obtain ⟨b1,o1,x,rfl,q1,_,hx,g1'⟩:=H1.out.w32_ hul
    have g1:=(hb.cell (p:=⟨b1,o1+u,none⟩) (au q1 hm)).trans g1'
    have bx:=HA.out x (gM hx)
    have HX:=mi (show a[n / 32+k]?.getD 0=x by rw [←HQ.out,←hu,hx];rfl)
    obtain ⟨y,hy⟩:∃ y,y=a[u+1]?.getD 0:=⟨_,rfl⟩
    have HYU:=mi hy
    have HY:=mi (show a[n / 32+k+1]?.getD 0=y by rw [←HQ.out,←hu,hy])
    have by':y<4294967296:=by
     rw [hy]
     by_cases hyl:u+1<a.length
     ·rw [gE hyl];exact HA.out _ (ff hyl)
     ·rw [fg (by omega)];decide
    have w1:IntKind.i64.wrap ((k:Int)+(q:Int))=(u:Int):=by rw [ld];omega
    have w2':IntKind.i64.wrap ((u:Int)+1)=((u+1:Nat):Int):=by rw [ld];omega
    have w3:IntKind.u64.wrap ((y:Int)*4294967296)=(y:Int)*4294967296:=by rw [gk];omega
    obtain ⟨s,hs⟩:∃ s,s=x+4294967296*y:=⟨_,rfl⟩
    have hor:bits .or .u64 ((y:Int)*4294967296) (x:Int)=(s:Int):=by rw [hs];exact Aqa by' bx
    obtain ⟨z,hzn⟩:∃ z:Nat,z=(x+y*4294967296) / 2 ^ (n % 32) % 4294967296:=⟨_,rfl⟩
    have hz:((s:Int) / 2 ^ (n % 32) % 4294967296)=(z:Int):=by rw [hzn,hs,ay 4294967296 y];simp
    have HZ:=mi (show z=(a[n / 32+k]?.getD 0+a[n / 32+k+1]?.getD 0*4294967296) / 2 ^ (n % 32) % 4294967296 by rw [HX.out,HY.out];exact hzn)
    have HZB:=mi (show z<4294967296 by rw [hzn];exact fy _ (by decide))
    have hul':(u:Int)<(a.length:Int):=by omega
    have hkl':(k:Int)<(L:Int):=by omega
    have hat:=fun nq=>Zs (some ⟨b1,o1,none⟩) a c (u+1) m (wr.drewN nq) (H1.out.below (below_drewN hb nq) hm) (by omega) (by omega)
    rw [←hy] at hat
    have HAT:=mi hat
    have f1:wr.cell? ⟨g,k,none⟩=some (.int .u32 0):=by
     have:=HO.out.cellA (j:=k) (z:=0) (by rw [dt (by rw [HOL.out];omega),HOL.out,em];rw [jr];simp;omega)
     simpa using this
    have f2:∀ j,wr.frozen? ⟨g,j,none⟩=false:=fun j=>HO.out.freeA hlen.out j
    clear hy hx hs hzn hu g1' hat
    go_wp2_with fail
    go_quiet ((go_at_call 213;exact Abi (HAT.out _)))
    go_wp2_with fail
    refine ⟨⟨k+1,os++[z],by omega,by go_num,?_,by rw [aq,HOL.out];rfl,IC HOK.out HZB.out,Amb HA.out HOL.out HV.out HZ.out,?_⟩,by simp [intOf];omega⟩
    ·have h5:=((HO.out.drewN nq).put hlen.out k z)
     rw [Adg HOL.out hlt] at h5
     exact h5
    ·exact (below_drewN hb nq).setCell (by have:=hgw.out;simp;omega) _
   ·as_aux_lemma =>
    have hkL:k=L:=by omega
    have hle:¬ (k:Int)<(L:Int):=by omega
    have hO:=HO.out
    rw [hkL,em,lg,av] at hO
    have hol:=HOL.out.trans hkL
    have hL6':os.length≤1000000:=by omega
    have HWV:=mi (ApX (k:=k) HA.out (by have:=HQ.out;have:=HL.out;omega) HV.out)
    have HGC:=mi hO.cap_.2.2.2
    have hcall:=Gn (some ⟨g,0,none⟩) os os.length wr.heap.size wr HGC.out (aa _) (lT hL6' (by decide))
    exact ze4f
theorem Zt {l:Nat} (hc:c<2 ^ r) (hl:l<4294967296) (hr:r≤32) (hd:l % 2 ^ r=0):bits .or .u32 (c:Int) (l:Int)=((c+l:Nat):Int)∧c+l<4294967296:=by
 have hp:=bt r
 have e0:=ek l (2 ^ r)
 rw [hd,dv] at e0
 have h32:2 ^ r*2 ^ (32 - r)=4294967296:=by rw [←bh,show r+(32 - r)=32 by omega]
 have hq:l / 2 ^ r<2 ^ (32 - r):=(jp hp).2 (by rw [ay];omega)
 have hs:c+l<4294967296:=by
  have h1:2 ^ r*(l / 2 ^ r+1)≤2 ^ r*2 ^ (32 - r):=gu _ hq
  rw [h32,fe,e0] at h1
  omega
 refine ⟨?_,hs⟩
 have hc32:c<4294967296:=by omega
 rw [(bits_nat .u32 32 (by decide) (fun n h0 h1=>by rw [lc];omega) c l (by omega) (by omega)).2]
 have h:=Nat.two_pow_add_eq_or_of_lt hc (l / 2 ^ r)
 rw [e0] at h
 rw [Nat.or_comm,←h,Nat.add_comm]
theorem Akc {x:Nat} (hr:r≤32):(x*2 ^ r) % 4294967296 % 2 ^ r=0:=by
 have h32:(4294967296:Nat)=2 ^ r*2 ^ (32 - r):=by rw [←bh,show r+(32 - r)=32 by omega]
 rw [h32,Nat.mod_mul_right_mod,Nat.mul_mod_left]
theorem Aho {pre:List Nat} {u:Nat} (hu:pre.length=u) (hm:0<m):((pre++cy::List.replicate m 0).set u z).set (u+1) c'=(pre++[z])++c'::List.replicate (m - 1) 0:=by
 subst hu
 obtain ⟨j,rfl⟩:∃ j,m=j+1:=⟨m - 1,by omega⟩
 simp [List.set_append,ky]
def Aqf (w:World) (a:List Nat) (q p g L:Nat) (i:Value) (wr:World):Prop :=
 ∃ (k:Nat) (os:List Nat) (cy:Nat),k≤a.length∧i=.int .i64 (k:Int)∧Hf wr w.heap.size (.slice (some ⟨g,0,none⟩) L L) (os++cy::List.replicate (a.length - k) 0)∧os.length=q+k∧Az os∧cy<p ∧
  Bc os+4294967296 ^ (q+k)*cy=Bc (a.take k)*(4294967296 ^ q*p)∧Below w.heap.size w wr
theorem ze9f (h:p:=by
 go_enter func72,ntmps72
 go_wp2_with fail
 go_ret
 exact ⟨A,c,by rw [HE.out];rfl,hcc,by rw [HE.out];exact hcap,by rw [HE.out];exact H1.out.more hm,ah _ _⟩):p:=h
theorem Adh (A:Option Addr) (n0:Nat) (c n m:Nat) (w:World) (hm:m≤w.heap.size) (h1:Aj w m A (w32 (Ad n0))) (hcc:A=none→c=0) (hcap:(Ad n0).length≤c) (l1:(Ad n0).length≤100000) (hn:n≤1000000) :
    Calls prog 72 #[.slice A (Ad n0).length c,.int .i64 (n:Int)] w fun e w' =>
      ∃ G g,e=.returned (.slice G (Ad (n0*2 ^ n)).length g)∧(G=none→g=0)∧(Ad (n0*2 ^ n)).length≤g∧Aj w' w'.heap.size G (w32 (Ad (n0*2 ^ n)))∧Below w.heap.size w w':=by
  by_cases hz:n=0∨(Ad n0).length=0
  · have he:Ad (n0*2 ^ n)=Ad n0:=by
      rcases hz with h|h
      · rw [h];simp
      · have:n0=0:=by
          rcases co n0 with h2|h2
          · exact h2
          · have:=Eh (n:=n0) (by omega);omega
        rw [this];simp
    have HE:=mi he
    have H1:=mi h1
    clear he h1
    by_cases hn0:n=0
    · subst hn0
      clear hz
      exact ze9f
    · have hlz:(((Ad n0).length:Nat):Int)=0:=by rcases hz with h|h <;> omega
      have hlb:((((Ad n0).length:Nat):Int) == 0)=true:=by rw [hlz];rfl
      have hnb:((n:Int) == 0)=false:=by rw [beq_eq_false_iff_ne];omega
      have HLZ:=mi hlz
      clear hz hlz
      exact ze9f
  · obtain ⟨a,ha'⟩:∃ a,a=Ad n0:=⟨_,rfl⟩
    have ha:Az a:=by rw [ha'];exact Bd n0
    have hv0:Bc a=n0:=by rw [ha',AI]
    rw [←ha'] at h1 hcap l1 hz ⊢
    rw [←hv0]
    have hlb:(((a.length:Nat):Int) == 0)=false:=by rw [beq_eq_false_iff_ne];omega
    have hnb:((n:Int) == 0)=false:=by rw [beq_eq_false_iff_ne];omega
    clear hv0 ha' hz
    rw [Vy n]
    obtain ⟨q,hq⟩:∃ q,q=n / 32:=⟨_,rfl⟩
    obtain ⟨p,hp⟩:∃ p,p=2 ^ (n % 32):=⟨_,rfl⟩
    have hp0:0<p:=by rw [hp];exact bt _
    have hp32:p≤2147483648:=by
      rw [hp]
      exact ba (n := 2) (by decide) (show n % 32 ≤ 31 by omega)
    rw [←hq,←hp]
    have HP:=mi hp
    have H1:=mi h1
    have HA:=mi ha
    have hqi:(n:Int) / 32=(q:Int):=by omega
    have hq6:q≤31250:=by omega
    obtain ⟨L,hL⟩:∃ L,L=a.length+q+1:=⟨_,rfl⟩
    have hLi:(a.length:Int)+(q:Int)+1=(L:Int):=by omega
    have hL6:L≤200000:=by omega
    have HL:=mi hL
    obtain ⟨i0,hi,hz0,hz1,hz2⟩:=info_parts XL
    clear h1 ha hp hq hL
    go_enter func72,ntmps72
    go_wp2_with (with_reducible refine wpList_make_full _ rfl (.tmp 28) (.tmp 28) 90 rfl w.heap.size 143 i0 (.int .u32 0) 1 Hp hi hz0 hz1 .i64 .i64 _ _ L rfl rfl rfl rfl (by rw [hz2];omega) (by unfold maxLen;omega) (aa _) ?_;intro w2 hown hg)
    have hst:=(ah w.heap.size w).grown hg (aa _) (fun k h=>by simp at h)
    have hown2:=Adf hown
    obtain ⟨g,hg1⟩:∃ g,g=w.heap.size:=⟨_,rfl⟩
    have hgw:=mi hg1
    rw [←hg1]
    rw [show Hf w2 w.heap.size (.slice (some ⟨w.heap.size,0,none⟩) L L) (List.replicate L 0)=Hf w2 w.heap.size (.slice (some ⟨g,0,none⟩) L L) (List.replicate L 0) by rw [hg1]] at hown2
    have hinit:List.replicate L 0=List.replicate q 0++0::List.replicate a.length 0:=by
      rw [HL.out,show a.length+q+1=q+(a.length+1) by omega,←List.replicate_append_replicate,ky]
    rw [hinit] at hown2
    clear hown hg hi hz0 hz1 hz2 hg1 hinit hLi
    go_loopw [32] (fun i wr=>Aqf w a q p g L i wr) (fun i _=>a.length - (intOf i).toNat)
    case atStart=>exact ⟨0,List.replicate q 0,0,af _,rfl,hown2,by simp,XM q,hp0,by simp [Gl,Bc],hst⟩
    case round =>
      as_aux_lemma =>
      obtain ⟨k,os,cy,hk,rfl,hown,hol,hok,hcy,hv,hb⟩:=hrel
      have HO:=mi hown
      have HOL:=mi hol
      have HOK:=mi hok
      have HV:=mi hv
      have HCY:=mi hcy
      have hsz:=hb.size
      have hlen := mi (show L = (os ++ cy :: List.replicate (a.length - k) 0).length by have := HL.out; simp; omega)
      clear hown hol hok hv hown2 hst hcy
      by_cases hlt:k<a.length
      · as_aux_lemma =>
        obtain ⟨u,hu⟩:∃ u,u=k+q:=⟨_,rfl⟩
        have huu:(k:Int)+(q:Int)=(u:Int):=by omega
        have HU:=mi hu
        have huL:(u:Int)+1<(L:Int):=by have:=HL.out;omega
        obtain ⟨b1,o1,x,rfl,q1,_,hx,g1'⟩:=H1.out.w32_ hlt
        have g1:=(hb.cell (p:=⟨b1,o1+k,none⟩) (au q1 hm)).trans g1'
        have bx:=HA.out x (gM hx)
        have HX := mi (show a[k]?.getD 0 = x by rw [hx]; rfl)
        have hr31:n % 32≤31:=by omega
        obtain ⟨t,ht⟩:∃ t,t=x*p:=⟨_,rfl⟩
        have htb:t<9223372036854775808:=by
          rw [ht]
          have:x*p≤4294967295*2147483648:=du (by omega) hp32
          omega
        have hT:IntKind.u64.wrap ((x:Int)*2 ^ (n % 32))=(t:Int):=by
          have e1:(x:Int)*2 ^ (n % 32)=((x*2 ^ (n % 32):Nat):Int):=by simp
          rw [e1,←HP.out,←ht,gk]
          omega
        obtain ⟨lw,hlw⟩:∃ lw,lw=t % 4294967296:=⟨_,rfl⟩
        have hlwi:(t:Int) % 4294967296=(lw:Int):=by omega
        obtain ⟨c',hc'⟩:∃ c',c'=t / 4294967296:=⟨_,rfl⟩
        have hci:(t:Int) / 4294967296=(c':Int):=by omega
        have hcb:c'<4294967296:=by omega
        have hcp:=AlX HCY.out bx
        have hor:=Zt (c:=cy) (l:=lw) (r:=n % 32) (by rw [←HP.out];exact HCY.out) (by omega) (by omega) (by rw [hlw,ht,HP.out];exact Akc (by omega))
        have hor1:=hor.1
        obtain ⟨z,hzn⟩:∃ z,z=cy+lw:=⟨_,rfl⟩
        rw [←hzn] at hor1
        have HZB := mi (show z < 4294967296 by rw [hzn]; exact hor.2)
        have HZ := mi (show z + 4294967296 * c' = cy + x * p by rw [hzn, hlw, hc', ← ht]; omega)
        have HCP := mi (show c' < p by
          have h5:=HZ.out
          have h6:=HZB.out
          have h7:(cy+x*p) / 4294967296=c':=by omega
          rw [←h7]
          exact hcp)
        have f1:wr.cell? ⟨g,u,none⟩=some (.int .u32 (cy:Int)):=HO.out.cellA (by rw [dt (by rw [HOL.out,hu];omega),HOL.out,hu,show k+q - (q+k)=0 by omega];rfl)
        have f2:∀ j,wr.frozen? ⟨g,j,none⟩=false:=fun j=>HO.out.freeA hlen.out j
        have f3:wr.cell? ⟨g,u+1,none⟩=some (.int .u32 0):=by
          have:=HO.out.cellA (j:=u+1) (z:=0) (by
            rw [dt (by rw [HOL.out,hu];omega),HOL.out,hu,show k+q+1 - (q+k)=0+1 by omega,fi,jr,if_pos (by omega)])
          simpa using this
        have hgne:g<wr.heap.size:=(World.ownsRow.lt HO.out g rfl).2
        have hbg:b1≠g:=by have:=hgw.out;omega
        clear hx g1' ht hlw hc' hcp hor hzn hu
        go_wp2_with fail
        refine ⟨⟨k+1,os++[z],c',by omega,by go_num,?_,by rw [aq,HOL.out];rfl,IC HOK.out HZB.out,HCP.out,AlY HOL.out HX.out HV.out HZ.out,?_⟩,by simp [intOf];omega⟩
        · have h5:=((HO.out.put hlen.out u z).put (by rw [dw];exact hlen.out) (u+1) c')
          rw [Aho (by rw [HOL.out,HU.out];omega) (by omega),show a.length - k - 1=a.length - (k+1) by omega] at h5
          exact h5
        · exact (hb.setCell (by have:=hgw.out;simp;omega) _).setCell (by have:=hgw.out;simp;omega) _
      · as_aux_lemma =>
        have hkL:k=a.length:=by omega
        have hle:¬ (k:Int)<(a.length:Int):=by omega
        have hO:=HO.out
        rw [hkL,em,lg] at hO
        obtain ⟨ws,hws⟩:∃ ws,ws=os++[cy]:=⟨_,rfl⟩
        rw [←hws] at hO
        have hwl:ws.length=L:=by rw [hws,aq,HOL.out,HL.out,hkL];simp;omega
        have hwok:Az ws:=by rw [hws];exact IC HOK.out (by have:=HCY.out;omega)
        have hwv:Bc ws=Bc a*(4294967296 ^ q*p):=by
          have hv:=HV.out
          rw [am (by omega)] at hv
          rw [hws,CC,HOL.out,←hv]
          simp only [Bc,Nat.mul_zero,dv]
        have hcall:=Gn (some ⟨g,0,none⟩) ws ws.length wr.heap.size wr hO.cap_.2.2.2 (aa _) (by omega)
        have HGC:=mi hO.cap_.2.2.2
        rw [hwl] at hcall
        have HCALL:=mi hcall
        have HWO:=mi hwok
        have HWV:=mi hwv
        have HWL:=mi hwl
        clear hkL hO hws hwl hwok hwv hcall
        go_wp2_with (go_at_call 159;refine HCALL.out.mono ?_;rintro e w3 ⟨rfl,rfl⟩)
        go_ret
        have hcan:=Gk HWO.out
        rw [HWV.out] at hcan
        refine ⟨some ⟨g,0,none⟩,L,by rw [hcan];rfl,by simp,?_,?_,hb⟩
        · rw [←hcan,EW]
          have:=Mh ws ws.length
          have:=HWL.out
          omega
        · rw [←hcan]
          exact HGC.out.takeW _
theorem Oq {P:Program} {t t2 e e2:TypeId} (ht:P.underlying t=some (.slice e)) (ht2:P.underlying t2=some (.slice e2)) (ty:TypeId) (s x:Value) (w:World) :
  (Builtin.append_ #[t,t2] ty #[s,x]).run P w=(Builtin.append_ #[t,t] ty #[s,x]).run P w:=by
 cases s with
 | slice base sl sc=>simp [Builtin.append_,run_underlying ht,run_underlying ht2]
 | _=>simp [Builtin.append_,run_underlying ht]
theorem Adi {a:Act} {Q:Exit→Act→World→Prop} (hgd:o.guard=none) (s x:Operand)
  (ho:o.op=.call { callee:=.builtin .append,args:=#[s,x],argTypes:=#[41,90] })
  (base:Nat) (v:Value) (xs ys:List Nat) (A:Option Addr) (c m:Nat) (hs:a.eval s=v) (hown:Hf w base v xs) (hx:a.eval x=.slice A ys.length c) (hn:A=none→c=0) (hc:Aj w m A (w32 ys))
  (hlen:xs.length+ys.length≤1000000) (hbase:base≤w.heap.size)
  (h:∀ v' w',Hf w' base v' (xs++ys)→Below base w w'→wpList prog ops Q rest (a.put o.dst v') w'):wpList prog ops Q (o::rest) a w:=by
 obtain ⟨i0,hi,hz0,hz1,hz2⟩:=info_parts ApV
 rcases A with _|⟨b,off,l⟩
 ·have hy:ys=[]:=by
   rcases ys with _|⟨y,ys⟩
   ·rfl
   ·obtain ⟨b,off,hA,_⟩:=hc (by simp [w32])
    cases hA
  subst hy
  have hc0:=hn rfl
  subst hc0
  refine wpList_plain hgd fun K hK=>?_
  have hrun:=run_append_owned_none (P:=prog) (w:=w) base 41 o.type 143 i0 1 Tw hi v xs.length (w32 xs) hown
  rw [←Oq Tw Hp] at hrun
  have hx':a.eval x=.slice none 0 0:=hx
  unfold Oper.wp
  simp only [execOp,ho,resolve,invoke,builtin,ai,bk,bd,js,br,fz,hs,hx',hrun]
  exact hK _ _ (h v w (by rw [av];exact hown) (ah _ _))
 ·have hcell:∀ j u,(w32 ys)[j]?=some u→w.cell? ((⟨b,off,l⟩:Addr).add j)=some u:=by
   intro j u hu
   obtain ⟨b',off',hA,_,_,hcc⟩:=hc (fun h0=>by rw [h0] at hu;simp at hu)
   cases hA
   have hu':=hcc j u hu
   rcases j with _|j
   ·simpa [Addr.add] using hu'
   ·simpa [Addr.add] using hu'
  have hone:∀ u∈w32 ys,u.oneCell'=true:=by
   intro u hu
   obtain ⟨z,_,rfl⟩:=List.mem_map.1 hu
   rfl
  obtain ⟨v',w',hr,h2,h3,h4⟩:=run_append_own (P:=prog) w base 41 o.type 143 i0 (.int .u32 0) 1 4 Tw hi hz0 hz1 hz2 rfl (by decide) v xs.length (w32 xs) hown ⟨b,off,l⟩ ys.length c (w32 ys) (by simp [w32]) hcell hone (by unfold maxLen;omega) (by omega) hbase
  rw [←Oq Tw Hp] at hr
  refine wpList_plain hgd fun K hK=>?_
  unfold Oper.wp
  simp only [execOp,ho,resolve,invoke,builtin,ai,bk,bd,js,br,fz,hs,hx,hr]
  refine hK _ _ (h v' w' ?_ ((ah base w).grown h3 hbase (fun g hg=>(World.ownsRow.lt hown g hg).1)))
  have e:w32 (xs++ys)=w32 xs++w32 ys:=by simp [w32]
  unfold Hf
  rw [e,aq]
  exact h2
theorem ze8f (h:p:=by
 go_wp2_with fail
 go_quiet (fail)
 go_wp2_with fail
 go_quiet (fail)
 go_wp2_with fail
 go_ret
 exact ⟨by rw [HV.out];rfl,by repeat (first|exact ah _ _|refine Vr ?_ _)⟩):p:=h
theorem Aqg (h:p:=by
 clear hab hl hlt
 go_enter func30,ntmps30
 go_wp2_with fail
 go_ret
 exact ⟨by rw [HV.out];rfl,ah _ _⟩):p:=h
theorem XO (A B:Option Addr) (a b:Nat) (c1 c2 m:Nat) (w:World) (h1:Aj w m A (w32 (Ad a))) (h2:Aj w m B (w32 (Ad b))) (l1:(Ad a).length≤36000000000000) (l2:(Ad b).length≤36000000000000) :
  Calls prog 30 #[.slice A (Ad a).length c1,.slice B (Ad b).length c2] w fun e w'=>e=.returned (.int .i64 (sgI ((a:Int) - (b:Int))))∧Below w.heap.size w w':=by
 have H1:=mi h1
 have H2:=mi h2
 clear h1 h2
 by_cases hl:(Ad a).length=(Ad b).length
 ·have HL:=mi hl
  have e1:(((Ad a).length:Int) != ((Ad b).length:Int))=false:=by simp;omega
  clear hl
  go_enter func30,ntmps30
  go_wp2_with fail
  go_loopw [5] (fun i wr=>Aug w (Ad a) (Ad b) i wr) (fun i _=>(intOf i+1).toNat)
  case atStart=>exact ⟨(Ad a).length,0,aa _,rfl,by rw [jt,HL.out,jt],rfl⟩
  case round =>
   as_aux_lemma =>
   obtain ⟨k,nq,hk,rfl,hd,rfl⟩:=hrel
   have HD:=mi hd
   clear hd
   by_cases h0:k=0
   ·subst h0
    go_wp2_with fail
    go_ret
    refine ⟨?_,below_drewN (ah _ _) _⟩
    have:=HD.out
    simp at this
    have hab:a=b:=by rw [←AI a,←AI b,this]
    subst hab
    have:sgI ((a:Int) - (a:Int))=0:=by rw [Int.sub_self];rfl
    rw [this]
    rfl
   ·obtain ⟨j,rfl⟩:=mc h0
    obtain ⟨b1,o1,x,rfl,_,_,hx,g1⟩:=H1.out.w32_ (k:=j) (by omega)
    obtain ⟨b2,o2,y,rfl,_,_,hy,g2⟩:=H2.out.w32_ (k:=j) (by have:=HL.out;omega)
    have HX:=mi hx
    have HY:=mi hy
    have hj:((j.succ:Nat):Int) - 1=(j:Int):=by omega
    have hja:(j:Int)<((Ad a).length:Int):=by omega
    have hjb:(j:Int)<((Ad b).length:Int):=by have:=HL.out;omega
    rw [hj]
    clear hx hy h0
    by_cases hxy:x=y
    ·subst hxy
     have e2:((x:Int) != (x:Int))=false:=by simp
     go_wp2_with fail
     go_quiet (fail)
     go_wp2_with fail
     exact ⟨⟨j,_,by omega,by go_num,AcY HX.out HY.out HD.out,rfl⟩,by simp [intOf];try omega⟩
    ·have e2:((x:Int) != (y:Int))=true:=by simp;omega
     have hla:=AlW (Bd a) (Bd b) HX.out HY.out HD.out hxy
     rw [AI,AI] at hla
     by_cases hlt:x<y
     ·have e3:decide ((x:Int)<(y:Int))=true:=decide_eq_true (by omega)
      have hab:a<b:=by rw [decide_eq_true hlt] at hla;simpa using hla
      have HV:=mi (show sgI ((a:Int) - (b:Int)) = -1 by unfold sgI;rw [if_neg (by omega),if_pos (by omega)])
      clear hla hab hxy
      exact ze8f
     ·have e3:decide ((x:Int)<(y:Int))=false:=decide_eq_false (by omega)
      have hab:¬ a<b:=by rw [decide_eq_false hlt] at hla;simpa using hla
      have hba:b<a:=by
       rcases bf b a with h|h
       ·exact h
       ·exfalso
        have:a=b:=by omega
        subst this
        have:=HX.out.symm.trans HY.out
        simp at this
        exact hxy this
      have HV:=mi (show sgI ((a:Int) - (b:Int))=1 by unfold sgI;rw [if_neg (by omega),if_neg (by omega)])
      clear hla hab hba hxy
      exact ze8f
 ·have e1:(((Ad a).length:Int) != ((Ad b).length:Int))=true:=by simp;omega
  by_cases hlt:(Ad a).length<(Ad b).length
  ·have hli:((Ad a).length:Int)<((Ad b).length:Int):=by omega
   have hab:a<b:=by
    rcases bf a b with h|h
    ·exact h
    ·have:=Bt h;omega
   have HV:=mi (show sgI ((a:Int) - (b:Int)) = -1 by unfold sgI;rw [if_neg (by omega),if_pos (by omega)])
   exact Aqg
  ·have hli:¬ ((Ad a).length:Int)<((Ad b).length:Int):=by omega
   have hab:b<a:=by
    rcases bf b a with h|h
    ·exact h
    ·have:=Bt h;omega
   have HV:=mi (show sgI ((a:Int) - (b:Int))=1 by unfold sgI;rw [if_neg (by omega),if_neg (by omega)])
   exact Aqg
theorem Amg (h:WdR w m v n) (hl:(Ad n).length≤1000000):Calls prog 159 #[v] w fun e w'=>e=.returned v∧w=w':=by
 obtain ⟨A,c,rfl,h1,h2,h3⟩:=h
 have h:=Gn A (Ad n) c m w h3 h2 (lT hl (by decide))
 have e:Nh (Ad n)=Ad n:=by rw [Gk (Bd n),AI]
 rw [e] at h
 exact h
theorem Tz (h:WdR w m v n) (hm:m≤w.heap.size) (hl:(Ad n).length≤100000) (hk:k≤1000000) :
  Calls prog 161 #[v,.int .i64 (k:Int)] w fun e w'=>∃ v',e=.returned v'∧WdR w' w'.heap.size v' (n / 2 ^ k)∧Below w.heap.size w w':=by
 obtain ⟨A,c,rfl,h1,h2,h3⟩:=h
 refine (Abn A (Ad n) c k m w hm h3 (Bd n) hl hk).mono ?_
 rintro e w' ⟨G,g,rfl,g1,g2,g3,hb⟩
 rw [AI] at g2 g3 ⊢
 exact ⟨_,rfl,⟨G,g,rfl,g1,g2,g3⟩,hb⟩
theorem XP (h:WdR w m v n) (hm:m≤w.heap.size) (hl:(Ad n).length≤100000) (hk:k≤1000000) :
  Calls prog 72 #[v,.int .i64 (k:Int)] w fun e w'=>∃ v',e=.returned v'∧WdR w' w'.heap.size v' (n*2 ^ k)∧Below w.heap.size w w':=by
 obtain ⟨A,c,rfl,h1,h2,h3⟩:=h
 refine (Adh A n c k m w hm h3 h1 h2 hl hk).mono ?_
 rintro e w' ⟨G,g,rfl,g1,g2,g3,hb⟩
 exact ⟨_,rfl,⟨G,g,rfl,g1,g2,g3⟩,hb⟩
theorem Nj {a:Nat} (h:WdR w m v a) (h2:WdR w m v2 b) (hl:(Ad a).length≤36000000000000) (hl2:(Ad b).length≤36000000000000) :
  Calls prog 30 #[v,v2] w fun e w'=>e=.returned (.int .i64 (sgI ((a:Int) - (b:Int))))∧Below w.heap.size w w':=by
 obtain ⟨A,c,rfl,h1,h1',h3⟩:=h
 obtain ⟨A2,c2,rfl,k1,k1',k3⟩:=h2
 exact XO A A2 a b c c2 m w h3 k3 hl hl2
theorem Amh (h:WdR w m v n) (hm:m≤w.heap.size) (hl:(Ad n).length≤100000) (ht:An w) :
  Calls prog 160 #[v] w fun e w'=>(∃ z:Nat,e=.returned (.int .i64 (z:Int))∧(n=0→z=1099511627776)∧(n≠0→Aqd n z∧z≤3200000))∧w=w':=by
 obtain ⟨A,c,rfl,h1,h2,h3⟩:=h
 exact Ade A n c m w hm h3 hl ht
theorem Adj {neg:Bool} {n den z:Nat} (hz:n % 2 ^ z=0):∀ k,k≤z→k≤den→nf (sg neg n) den=nf (sg neg (n / 2 ^ k)) (den - k)
 | 0,_,_=>by simp
 | k+1,h1,h2=>by
  rw [Adj hz k (by omega) (by omega),Amd (by omega) ?_]
  have e:=ek n (2 ^ z)
  rw [hz,dv] at e
  have es:2 ^ z=2 ^ k*(2*2 ^ (z - k - 1)):=by rw [←iv,←bh];congr 1;omega
  rw [←e,es,aw,aw,me _ (bt k)]
  omega
theorem Aun (h:Aqd n z):nf (sg neg n) den=(sg neg (n / 2 ^ (min z den)),den - min z den):=by
 rw [Adj h.1 (min z den) (by omega) (by omega)]
 refine Ni (fun h0=>?_)
 have:min z den=z:=by omega
 rw [this]
 have:=h.2
 unfold sg
 split <;> omega
theorem Lx (h2:tmps.getD 6 undef=.pointer (some ⟨b,0,none⟩)) (hB:BQ w b [v0,v1,v2] 43) :
  (results Tryz.f73 tmps).run prog w=.ok (.agg #[v0,v1,v2]) w:=by
 have k0:=hB.cell 0
 have k1:=hB.cell 1
 have k2:=hB.cell 2
 simp at k0 k1 k2
 simp at h2
 simp [results,results73,go_sem,h2,k0,k1,k2]
theorem al_ (u:World) (o:Obj):Below u.heap.size u (u.alloc o):=(ah _ u).alloc (aa _) o
theorem ze7f (h:p:=by
 go_wp2_with fail
 refine bodyPost_ret (Lx rfl (((u1.set_ 0 _).set_ 1 _).set_ 2 _)) rfl ⟨_,rfl,?_,((bv.setCell (by simp) _).setCell (by simp) _).setCell (by simp) _⟩
 rw [HRES.out]
 exact DyR.zero_ _ _ _):p:=h
theorem Ep (h:WdR w m v n) (hm:m≤w.heap.size) (hl:(Ad n).length≤100000) (hd:d≤65536) (ht:An w) :
    Calls prog 73 #[.bool neg,v,.int .i64 (d:Int)] w fun e w' =>
      ∃ v',e=.returned v'∧DyR w' w.heap.size w'.heap.size v' (nf (sg neg n) d).1 (nf (sg neg n) d).2∧Below w.heap.size w w':=by
  obtain ⟨A0,L0,c0,rfl⟩:=h.form
  have X:=mi h
  have HT:=mi ht
  clear h ht
  have b0:Below w.heap.size w (w.alloc (.cells #[.bool false,.slice none 0 0,.int .i64 0] 43)):=Au (ah _ _) _
  have r0:=BQ.new_ w [.bool false,.slice none 0 0,.int .i64 0] 43
  go_enter func73,ntmps73
  go_wp2_with fail
  go_at_call 159
  refine (Amg (X.out.below b0 hm) (by omega)).mono ?_
  rintro e w3 ⟨rfl,rfl⟩
  go_wp2_with fail
  go_at_call 160
  refine (Amh (X.out.below b0 hm) (by simp;omega) (by omega) (HT.out.call (al_ _ _))).mono ?_
  rintro e w3 ⟨⟨z,rfl,hz1,hz2⟩,rfl⟩
  obtain ⟨k,hk⟩:∃ k:Nat,k=min z d:=⟨_,rfl⟩
  have hmin:min (z:Int) (d:Int)=(k:Int):=by omega
  have hkd:k≤d:=by omega
  have hdk:¬ (65536:Int)<(d:Int) - (k:Int):=by omega
  have hdk0:¬ (65536:Int)<(d:Int):=by omega
  have hzz:z≤1099511627776:=by
    by_cases h0:n=0
    · have:=hz1 h0;omega
    · have:=(hz2 h0).2;omega
  have hval:n≠0→nf (sg neg n) d=(sg neg (n / 2 ^ k),d - k):=fun h0=>by rw [hk];exact Aun (hz2 h0).1
  have hn2:n≠0→n / 2 ^ k≠0:=fun h0 h1=>by
    have h3:=(hz2 h0).1
    have h4:n / 2 ^ z=0:=by
      have hle:2 ^ k≤2 ^ z:=ba (by decide) (by omega)
      have:=Nat.lt_of_div_eq_zero (bt k) h1
      exact gy (au this hle)
    have:=h3.2
    rw [h4] at this
    simp at this
  have hk0:n=0→k=d:=fun h0=>by have:=hz1 h0;omega
  have HVAL:=mi hval
  have HN2:=mi hn2
  have HK0:=mi hk0
  clear hz1 hz2 hk hval hn2 hk0
  by_cases hk1:k=0
  · as_aux_lemma =>
    have hkp:¬ 0<k:=by omega
    have hkp':¬ (0:Int)<(k:Int):=by omega
    by_cases hn:n=0
    · as_aux_lemma =>
      obtain ⟨wv,hwv⟩:∃ wv,wv=w.alloc (.cells #[.bool false,.slice none 0 0,.int .i64 0] 43):=⟨_,rfl⟩
      rw [←hwv]
      have rv:BQ wv w.heap.size [.bool false,.slice none 0 0,.int .i64 0] 43:=by rw [hwv];exact r0
      have bv:Below w.heap.size w wv:=by rw [hwv];exact b0
      have Y0:=X.out.below bv hm
      clear hwv r0 b0
      have HRES := mi (show nf (sg neg n) d = (0, 0) by rw [hn, show sg neg 0 = 0 by unfold sg; split <;> rfl]; exact AcZ d)
      have hL:(L0:Int)=0:=by
        obtain ⟨A,c,he,_⟩:=Y0
        cases he
        rw [hn,Bf];rfl
      have hLb:((L0:Int) == 0)=true:=by rw [hL];rfl
      have HLZ:=mi hL
      subst hk1
      clear hL hn Y0
      have u1:=rv
      have q0:wv.cell? ⟨w.heap.size,0,none⟩=some (.bool false):=u1.cell 0
      have q1:wv.cell? ⟨w.heap.size,1,none⟩=some (.slice none 0 0):=u1.cell 1
      have q2:wv.cell? ⟨w.heap.size,2,none⟩=some (.int .i64 0):=u1.cell 2
      have qf:=u1.free
      have hu1:=u1.lt
      exact ze7f
    · as_aux_lemma =>
      obtain ⟨wv,hwv⟩:∃ wv,wv=w.alloc (.cells #[.bool false,.slice none 0 0,.int .i64 0] 43):=⟨_,rfl⟩
      rw [←hwv]
      have rv:BQ wv w.heap.size [.bool false,.slice none 0 0,.int .i64 0] 43:=by rw [hwv];exact r0
      have bv:Below w.heap.size w wv:=by rw [hwv];exact b0
      have Y0:=X.out.below bv hm
      clear hwv r0 b0
      obtain ⟨y,hy⟩:∃ y,y=n / 2 ^ k:=⟨_,rfl⟩
      have HRES := mi (show nf (sg neg n) d = (sg neg y, d - k) by rw [HVAL.out hn, hy])
      have HODD := mi (show d - k ≠ 0 → sg neg y % 2 = 1 by
        have h5:=Ada (sg neg n) d
        rw [HRES.out] at h5
        exact h5)
      have HY0 := mi (show y ≠ 0 by rw [hy]; exact HN2.out hn)
      have hyl:(Ad y).length≤100000:=lT (Bt (by rw [hy];exact Nat.div_le_self _ _)) hl
      have hyp:=Eh HY0.out
      have e0:(((Ad y).length:Int) == 0)=false:=by rw [beq_eq_false_iff_ne];omega
      have hyn:y=n:=by rw [hy,hk1];simp
      subst hk1
      rw [←hyn] at Y0
      obtain ⟨A5,c5,he5,g1,g2,g3⟩:=Y0
      cases he5
      have G3:=mi g3
      obtain ⟨hi5,hhi5⟩:∃ hi5,hi5=m:=⟨_,rfl⟩
      rw [←hhi5] at g3
      clear hy hn hyn hhi5
      go_wp2_with (at_builtin
                   refine Adi rfl _ _ rfl wv.heap.size _ [] (Ad y) A0 c0 hi5 rfl (Hf.nil_ _ _) rfl g1 g3 (by simp;omega) (aa _) ?_
                   intro v' w4 hown4 hb4
                   rw [ea] at hown4
                   obtain ⟨A',c',rfl,_,_⟩:=hown4.view
                   have u1:=rv.call hb4
                   have bv4:=bv.trans (hb4.mono (by have:=bv.size;omega))
                   have hsv:=rv.lt
                   have hsz4:=hb4.size
                   clear hb4
                   have q0:w4.cell? ⟨w.heap.size,0,none⟩=some (.bool false):=u1.cell 0
                   have q1:w4.cell? ⟨w.heap.size,1,none⟩=some (.slice none 0 0):=u1.cell 1
                   have q2:w4.cell? ⟨w.heap.size,2,none⟩=some (.int .i64 0):=u1.cell 2
                   have qf:=u1.free
                   have hu1:=u1.lt)
      have hown5:Hf (((w4.setCell ⟨w.heap.size,0,none⟩ (.bool neg)).setCell ⟨w.heap.size,1,none⟩ (.slice A' (Ad y).length c')).setCell ⟨w.heap.size,2,none⟩ (.int .i64 (d:Int))) wv.heap.size (.slice A' (Ad y).length c') (Ad y):=ownsRow_setCell_below (ownsRow_setCell_below (ownsRow_setCell_below hown4 (by simp;omega) _) (by simp;omega) _) (by simp;omega) _
      refine bodyPost_ret (Lx rfl (((u1.set_ 0 _).set_ 1 _).set_ 2 _)) rfl ⟨_,rfl,?_,((bv4.setCell (by simp) _).setCell (by simp) _).setCell (by simp) _⟩
      rw [HRES.out]
      obtain ⟨_,hcl,hn',hc'⟩:=hown5.cap_
      refine ⟨A',c',?_,hn',?_,?_,?_,by show d - 0≤65536;omega,?_⟩
      · rw [PZ,Aka HY0.out]
        have:(d:Int)=((d - 0:Nat):Int):=by omega
        rw [this]
      · rw [PZ];exact hcl
      · rw [PZ];exact hc'
      · intro a ha
        have:=(World.ownsRow.lt hown5 a.block (by rw [ha];rfl)).1
        have:=bv.size
        omega
      · intro h
        have h5:=HODD.out h
        exact h5
  · have hkp:0<k:=by omega
    have hkp':(0:Int)<(k:Int):=by omega
    by_cases hn:n=0
    · as_aux_lemma =>
      have HRES := mi (show nf (sg neg n) d = (0, 0) by rw [hn, show sg neg 0 = 0 by unfold sg; split <;> rfl]; exact AcZ d)
      have hkd0:=HK0.out hn
      go_wp2_with fail
      go_at_call 161
      refine (Tz (X.out.below b0 hm) (by simp;omega) hl (by omega)).mono ?_
      rintro e wv ⟨v5,rfl,Y0,hb5⟩
      have rv:=r0.call hb5
      have bv:=b0.trans (hb5.mono (by simp))
      clear hb5 r0 b0
      rw [hn,Nat.zero_div] at Y0
      obtain ⟨A5,c5,he5,g1,g2,g3⟩:=Y0
      rw [Bf] at he5
      subst he5
      clear hn g1 g2 g3
      have u1:=rv
      have q0:wv.cell? ⟨w.heap.size,0,none⟩=some (.bool false):=u1.cell 0
      have q1:wv.cell? ⟨w.heap.size,1,none⟩=some (.slice none 0 0):=u1.cell 1
      have q2:wv.cell? ⟨w.heap.size,2,none⟩=some (.int .i64 0):=u1.cell 2
      have qf:=u1.free
      have hu1:=u1.lt
      exact ze7f
    · as_aux_lemma =>
      obtain ⟨y,hy⟩:∃ y,y=n / 2 ^ k:=⟨_,rfl⟩
      have HRES := mi (show nf (sg neg n) d = (sg neg y, d - k) by rw [HVAL.out hn, hy])
      have HODD := mi (show d - k ≠ 0 → sg neg y % 2 = 1 by
        have h5:=Ada (sg neg n) d
        rw [HRES.out] at h5
        exact h5)
      have HY0 := mi (show y ≠ 0 by rw [hy]; exact HN2.out hn)
      have hyl:(Ad y).length≤100000:=lT (Bt (by rw [hy];exact Nat.div_le_self _ _)) hl
      have hyp:=Eh HY0.out
      have e0:(((Ad y).length:Int) == 0)=false:=by rw [beq_eq_false_iff_ne];omega
      clear hn
      go_wp2_with fail
      go_at_call 161
      refine (Tz (X.out.below b0 hm) (by simp;omega) hl (by omega)).mono ?_
      rintro e wv ⟨v5,rfl,Y0,hb5⟩
      have rv:=r0.call hb5
      have bv:=b0.trans (hb5.mono (by simp))
      clear hb5 r0 b0
      rw [←hy] at Y0
      obtain ⟨A5,c5,rfl,g1,g2,g3⟩:=Y0
      obtain ⟨hi5,hhi5⟩:∃ hi5,hi5=wv.heap.size:=⟨_,rfl⟩
      rw [←hhi5] at g3
      clear hy hhi5
      go_wp2_with (at_builtin
                   refine Adi rfl _ _ rfl wv.heap.size _ [] (Ad y) A5 c5 hi5 rfl (Hf.nil_ _ _) rfl g1 g3 (by simp;omega) (aa _) ?_
                   intro v' w4 hown4 hb4
                   rw [ea] at hown4
                   obtain ⟨A',c',rfl,_,_⟩:=hown4.view
                   have u1:=rv.call hb4
                   have bv4:=bv.trans (hb4.mono (by have:=bv.size;omega))
                   have hsv:=rv.lt
                   have hsz4:=hb4.size
                   clear hb4
                   have q0:w4.cell? ⟨w.heap.size,0,none⟩=some (.bool false):=u1.cell 0
                   have q1:w4.cell? ⟨w.heap.size,1,none⟩=some (.slice none 0 0):=u1.cell 1
                   have q2:w4.cell? ⟨w.heap.size,2,none⟩=some (.int .i64 0):=u1.cell 2
                   have qf:=u1.free
                   have hu1:=u1.lt)
      have hown5:Hf (((w4.setCell ⟨w.heap.size,0,none⟩ (.bool neg)).setCell ⟨w.heap.size,1,none⟩ (.slice A' (Ad y).length c')).setCell ⟨w.heap.size,2,none⟩ (.int .i64 ((d:Int) - (k:Int)))) wv.heap.size (.slice A' (Ad y).length c') (Ad y):=ownsRow_setCell_below (ownsRow_setCell_below (ownsRow_setCell_below hown4 (by simp;omega) _) (by simp;omega) _) (by simp;omega) _
      refine bodyPost_ret (Lx rfl (((u1.set_ 0 _).set_ 1 _).set_ 2 _)) rfl ⟨_,rfl,?_,((bv4.setCell (by simp) _).setCell (by simp) _).setCell (by simp) _⟩
      rw [HRES.out]
      obtain ⟨_,hcl,hn',hc'⟩:=hown5.cap_
      refine ⟨A',c',?_,hn',?_,?_,?_,by show d - k≤65536;omega,?_⟩
      · rw [PZ,Aka HY0.out]
        have:((d:Int) - (k:Int))=((d - k:Nat):Int):=by omega
        rw [this]
      · rw [PZ];exact hcl
      · rw [PZ];exact hc'
      · intro a ha
        have:=(World.ownsRow.lt hown5 a.block (by rw [ha];rfl)).1
        have:=bv.size
        omega
      · intro h
        have h5:=HODD.out h
        exact h5
theorem Adk (m:Int):∀ (k d:Nat),nf (m*2 ^ k) d=if k≤d then nf m (d - k) else (m*2 ^ (k - d),0)
 | 0,d=>by simp
 | k+1,0=>rfl
 | k+1,d+1=>by
  have e1:m*2 ^ (k+1)=2*(m*2 ^ k):=by rw [Int.pow_succ,←bc,fv]
  have h:nf (m*2 ^ (k+1)) (d+1)=nf (m*2 ^ k) d:=by
   rw [e1]
   show (if (2*(m*2 ^ k)) % 2=0 then nf (2*(m*2 ^ k) / 2) d else _)=_
   rw [if_pos (by omega),show 2*(m*2 ^ k) / 2=m*2 ^ k by omega]
  rw [h,Adk m k d]
  by_cases hk:k≤d
  ·rw [if_pos hk,if_pos (by omega),show d+1 - (k+1)=d - k by omega]
  ·rw [if_neg hk,if_neg (by omega),show k+1 - (d+1)=k - d by omega]
theorem Sb (u:Nat) (w:World) (hu:u<18446744073709551616) :
  Calls prog 204 #[.int .u64 (u:Int)] w fun e w'=>∃ v',e=.returned v'∧WdR w' w'.heap.size v' u∧Below w.heap.size w w':=by
 obtain ⟨lo,hlo⟩:∃ lo:Nat,(u:Int) % 4294967296=(lo:Int):=⟨(u % 4294967296:Nat),by omega⟩
 obtain ⟨hi,hhi⟩:∃ hi:Nat,(u:Int) / 4294967296=(hi:Int):=⟨(u / 4294967296:Nat),by omega⟩
 have hib:hi<4294967296:=by omega
 have lob:lo<4294967296:=by omega
 have hval:Bc [lo,hi]=u:=by rw [Ahn];omega
 have HV:=mi hval
 have c0:Aj (w.alloc (.cells #[.int .u32 (lo:Int),.int .u32 (hi:Int)] 143)) (w.heap.size+1) (some ⟨w.heap.size,0,none⟩) (w32 [lo,hi]) :=
  (BQ.new_ w (w32 [lo,hi]) 143).cells_ (by omega)
 have C0:=mi c0
 clear hval c0
 go_enter func204,ntmps204
 go_wp2_with fail
 go_at_call 159
 refine (Gn (some ⟨w.heap.size,0,none⟩) [lo,hi] 2 (w.heap.size+1) _ C0.out (by simp) (by simp)).mono ?_
 rintro e w3 ⟨rfl,rfl⟩
 go_wp2_with fail
 go_ret
 have hcan:=Gk (Aui lob hib)
 rw [HV.out] at hcan
 refine ⟨_,rfl,⟨some ⟨w.heap.size,0,none⟩,2,by rw [hcan];rfl,by simp,?_,?_⟩,al_ _ _⟩
 ·rw [←hcan,EW]
  exact Mh _ _
 ·rw [←hcan]
  exact (C0.out.takeW _).more (by simp)
theorem Adl (h2:tmps.getD 2 undef=.pointer (some ⟨b,0,none⟩)) (hB:BQ w b [v0,v1,v2] 43) :
  (results Tryz.f123 tmps).run prog w=.ok (.agg #[v0,v1,v2]) w:=by
 have k0:=hB.cell 0
 have k1:=hB.cell 1
 have k2:=hB.cell 2
 simp at k0 k1 k2
 simp at h2
 simp [results,results123,go_sem,h2,k0,k1,k2]
theorem Aqh (h:p:=by
 exact ((((D3'.out.set_ (by omega) 0 _).set_ (by omega) 1 _).set_ (by omega) 2 _).low (by omega)).more (by simp)):p:=h
theorem XQ (n:Int) (h1 : -9223372036854775808≤n) (h2:n<9223372036854775808) (w:World) (ht:An w) :
  Calls prog 123 #[.int .i64 n] w fun e w'=>∃ v',e=.returned v'∧DyR w' w.heap.size w'.heap.size v' n 0∧Below w.heap.size w w':=by
 by_cases h:n<0
 ·as_aux_lemma =>
  obtain ⟨u,hu⟩:∃ u:Nat,-n=(u:Int):=⟨(-n).toNat,by omega⟩
  obtain ⟨vv,hvv⟩:∃ vv:Nat,n+18446744073709551616=(vv:Int):=⟨(n+18446744073709551616).toNat,by omega⟩
  have hu1:IntKind.u64.wrap n=(vv:Int):=by rw [gk];omega
  have hu2:IntKind.u64.wrap (-(vv:Int))=(u:Int):=by rw [gk];omega
  have hsg:sg true u=n:=by unfold sg;simp;omega
  have hub:u<18446744073709551616:=by omega
  have hcl:(Ad u).length≤2:=AC (by omega)
  have HSG:=mi hsg
  have HT:=mi ht
  clear hsg ht hvv hu
  have b0:Below w.heap.size w (w.alloc (.cells #[.bool false,.slice none 0 0,.int .i64 0] 43)):=Au (ah _ _) _
  have r0:=BQ.new_ w [.bool false,.slice none 0 0,.int .i64 0] 43
  go_enter func123,ntmps123
  go_wp2_with fail
  go_at_call 204
  refine (Sb u _ hub).mono ?_
  rintro e w1 ⟨v1,rfl,Y,hb1⟩
  have r1:=r0.call hb1
  have b1:=b0.trans (hb1.mono (by simp))
  have hw1:=r1.lt
  have HT1:=HT.out.below b1 HT.out.1
  obtain ⟨A1,L1,c1,rfl⟩:=Y.form
  have Y':=mi Y
  clear hb1 r0 b0 Y
  go_wp2_with fail
  go_at_call 73
  refine (Ep (d:=0) Y'.out (aa _) (by omega) (by omega) HT1).mono ?_
  rintro e w3 ⟨v',rfl,D3,hb3⟩
  rw [HSG.out] at D3
  have D3:DyR w3 (w.heap.size+1) w3.heap.size v' n 0:=D3.low (by omega)
  have u1:=r1.call hb3
  have bv:=b1.trans (hb3.mono (by have:=b1.size;omega))
  obtain ⟨nb3,A3,L3,c3,rfl,_⟩:=D3.form
  have D3':=mi D3
  clear D3 hb3 r1 b1
  have q0:w3.cell? ⟨w.heap.size,0,none⟩=some (.bool false):=u1.cell 0
  have q1:w3.cell? ⟨w.heap.size,1,none⟩=some (.slice none 0 0):=u1.cell 1
  have q2:w3.cell? ⟨w.heap.size,2,none⟩=some (.int .i64 0):=u1.cell 2
  have qf:=u1.free
  have hu1:=u1.lt
  go_wp2_with fail
  refine bodyPost_ret (Adl rfl (((u1.set_ 0 _).set_ 1 _).set_ 2 _)) rfl ⟨_,rfl,?_,((bv.setCell (by simp) _).setCell (by simp) _).setCell (by simp) _⟩
  exact Aqh
 ·as_aux_lemma =>
  obtain ⟨u,rfl⟩:∃ u:Nat,n=(u:Int):=⟨n.toNat,by omega⟩
  have hsg:sg false u=(u:Int):=by unfold sg;simp
  have hub:u<18446744073709551616:=by omega
  have hcl:(Ad u).length≤2:=AC (by omega)
  have HSG:=mi hsg
  have HT:=mi ht
  clear hsg ht
  have b0:Below w.heap.size w (w.alloc (.cells #[.bool false,.slice none 0 0,.int .i64 0] 43)):=Au (ah _ _) _
  have r0:=BQ.new_ w [.bool false,.slice none 0 0,.int .i64 0] 43
  go_enter func123,ntmps123
  go_wp2_with fail
  go_at_call 204
  refine (Sb u _ hub).mono ?_
  rintro e w1 ⟨v1,rfl,Y,hb1⟩
  have r1:=r0.call hb1
  have b1:=b0.trans (hb1.mono (by simp))
  have hw1:=r1.lt
  have HT1:=HT.out.below b1 HT.out.1
  obtain ⟨A1,L1,c1,rfl⟩:=Y.form
  have Y':=mi Y
  clear hb1 r0 b0 Y
  go_wp2_with fail
  go_at_call 73
  refine (Ep (d:=0) Y'.out (aa _) (by omega) (by omega) HT1).mono ?_
  rintro e w3 ⟨v',rfl,D3,hb3⟩
  rw [HSG.out] at D3
  have D3:DyR w3 (w.heap.size+1) w3.heap.size v' (u:Int) 0:=D3.low (by omega)
  have u1:=r1.call hb3
  have bv:=b1.trans (hb3.mono (by have:=b1.size;omega))
  obtain ⟨nb3,A3,L3,c3,rfl,_⟩:=D3.form
  have D3':=mi D3
  clear D3 hb3 r1 b1
  have q0:w3.cell? ⟨w.heap.size,0,none⟩=some (.bool false):=u1.cell 0
  have q1:w3.cell? ⟨w.heap.size,1,none⟩=some (.slice none 0 0):=u1.cell 1
  have q2:w3.cell? ⟨w.heap.size,2,none⟩=some (.int .i64 0):=u1.cell 2
  have qf:=u1.free
  have hu1:=u1.lt
  go_wp2_with fail
  refine bodyPost_ret (Adl rfl (((u1.set_ 0 _).set_ 1 _).set_ 2 _)) rfl ⟨_,rfl,?_,((bv.setCell (by simp) _).setCell (by simp) _).setCell (by simp) _⟩
  exact Aqh
theorem Abo (h2:tmps.getD 4 undef=.pointer (some ⟨b,0,none⟩)) (hB:BQ w b [v0,v1,v2] 43) :
  (results Tryz.f27 tmps).run prog w=.ok (.agg #[v0,v1,v2]) w:=by
 have k0:=hB.cell 0
 have k1:=hB.cell 1
 have k2:=hB.cell 2
 simp at k0 k1 k2
 simp at h2
 simp [results,results27,go_sem,h2,k0,k1,k2]
theorem ze1f (h:p:=by
 obtain ⟨nb3,A3,L3,c3,rfl,_⟩:=D3.form
 have D3':=mi D3
 clear D3 hb3 r1 b1
 have q0:w3.cell? ⟨w.heap.size+1,0,none⟩=some (.bool false):=u1.cell 0
 have q1:w3.cell? ⟨w.heap.size+1,1,none⟩=some (.slice none 0 0):=u1.cell 1
 have q2:w3.cell? ⟨w.heap.size+1,2,none⟩=some (.int .i64 0):=u1.cell 2
 have qf:=u1.free
 have hu1:=u1.lt
 go_wp2_with fail
 refine bodyPost_ret (Abo rfl (((u1.set_ 0 _).set_ 1 _).set_ 2 _)) rfl ⟨_,rfl,?_,((bv.setCell (by simp) _).setCell (by simp) _).setCell (by simp) _⟩
 exact ((((D3'.out.set_ (by omega) 0 _).set_ (by omega) 1 _).set_ (by omega) 2 _).low (by omega)).more (by simp)):p:=h
theorem Nk {n:Int} (D:DyR w lo m v x d) (hm:m≤w.heap.size) (hl:(Ad x.natAbs).length≤50000) (hd:(d:Int) - max (-65536) (min n 65536)≤65536) (ht:An w) :
    Calls prog 27 #[v,.int .i64 n] w fun e w'=>∃ v',e=.returned v'∧DyR w' w.heap.size w'.heap.size v' (Ac x d n).1 (Ac x d n).2∧Below w.heap.size w w':=by
  obtain ⟨nn,hnn⟩:∃ nn:Int,max (-65536) (min n 65536)=nn:=⟨_,rfl⟩
  have hb1 : -65536≤nn:=by omega
  have hb2:nn≤65536:=by omega
  rw [hnn] at hd
  have hdd:=D.bound.1
  by_cases hneg:(d:Int) - nn<0
  · as_aux_lemma =>
    obtain ⟨p,hp⟩:∃ p:Nat,-((d:Int) - nn)=(p:Int):=⟨(nn - d).toNat,by omega⟩
    have HV := mi (show Ac x d n = (x * 2 ^ p, 0) by
      unfold Ac
      rw [hnn,if_neg (by omega)]
      rw [Adk,if_neg (by omega)]
      congr 3
      omega)
    have hp6:p≤1000000:=by omega
    have hlen:(Ad (x.natAbs*2 ^ p)).length≤100000:=by
      have:=BO x.natAbs p
      omega
    have hpn:(d:Int) - nn<0:=by omega
    obtain ⟨nb,A,L,c,rfl,HD⟩:=D.form
    have hd6:=D.bound.1
    have D':=mi D
    have HT:=mi ht
    have HN:=mi hnn
    have b0:Below w.heap.size w ((w.alloc (.cells #[.bool nb,.slice A L c,.int .i64 (d:Int)] 43)).alloc (.cells #[.bool false,.slice none 0 0,.int .i64 0] 43)):=Au (Au (ah _ _) _) _
    have r0:=BQ.new_ (w.alloc (.cells #[.bool nb,.slice A L c,.int .i64 (d:Int)] 43)) [.bool false,.slice none 0 0,.int .i64 0] 43
    rw [show (w.alloc (.cells #[.bool nb,.slice A L c,.int .i64 (d:Int)] 43)).heap.size=w.heap.size+1 by simp] at r0
    clear D ht
    go_enter func27,ntmps27
    go_wp2_with fail
    go_at_call 71
    refine (GK (D'.out.below b0 hm) (by simp;omega) (by omega)).mono ?_
    rintro e w1 ⟨nb',A',L',c',he,rfl,hb1⟩
    cases he
    have r1:=r0.call hb1
    have b1:=b0.trans (hb1.mono (by simp;omega))
    have hw1:=r1.lt
    have HT1:=HT.out.below b1 HT.out.1
    have X1:=(D'.out.below b1 hm).words
    clear hb1 r0 b0
    go_wp2_with fail
    go_at_call 72
    refine (XP X1 (by omega) (by omega) hp6).mono ?_
    rintro e w2 ⟨v2,rfl,Y,hb2⟩
    have r2:=r1.call hb2
    have b2:=b1.trans (hb2.mono (by omega))
    have HT2:=HT1.call hb2
    obtain ⟨A2,L2,c2,rfl⟩:=Y.form
    have hw2:=r2.lt
    clear hb2 r1 b1 HT1 X1
    go_wp2_with fail
    go_at_call 73
    refine (Ep (d:=0) Y (aa _) hlen (by omega) HT2).mono ?_
    rintro e w3 ⟨v',rfl,D3,hb3⟩
    rw [show nf (sg nb (x.natAbs*2 ^ p)) 0=Ac x d n by rw [HD.out.1,ApY,HV.out];rfl] at D3
    have r1:=r2
    have b1:=b2
    clear r2 b2
    have u1:=r1.call hb3
    have bv:=b1.trans (hb3.mono (by have:=b1.size;omega))
    exact ze1f
  · as_aux_lemma =>
    obtain ⟨p,hp⟩:∃ p:Nat,(d:Int) - nn=(p:Int):=⟨(d - nn).toNat,by omega⟩
    have HV := mi (show Ac x d n = nf x p by
      unfold Ac
      rw [hnn]
      by_cases h0:nn<0
      · rw [if_pos h0]
        congr 1
        omega
      · rw [if_neg h0,Adk,if_pos (by omega)]
        congr 1
        omega)
    have hp6:p≤65536:=by omega
    have hpn:¬ (d:Int) - nn<0:=by omega
    obtain ⟨nb,A,L,c,rfl,HD⟩:=D.form
    have hd6:=D.bound.1
    have D':=mi D
    have HT:=mi ht
    have HN:=mi hnn
    have b0:Below w.heap.size w ((w.alloc (.cells #[.bool nb,.slice A L c,.int .i64 (d:Int)] 43)).alloc (.cells #[.bool false,.slice none 0 0,.int .i64 0] 43)):=Au (Au (ah _ _) _) _
    have r0:=BQ.new_ (w.alloc (.cells #[.bool nb,.slice A L c,.int .i64 (d:Int)] 43)) [.bool false,.slice none 0 0,.int .i64 0] 43
    rw [show (w.alloc (.cells #[.bool nb,.slice A L c,.int .i64 (d:Int)] 43)).heap.size=w.heap.size+1 by simp] at r0
    clear D ht
    go_enter func27,ntmps27
    go_wp2_with fail
    go_at_call 71
    refine (GK (D'.out.below b0 hm) (by simp;omega) (by omega)).mono ?_
    rintro e w1 ⟨nb',A',L',c',he,rfl,hb1⟩
    cases he
    have r1:=r0.call hb1
    have b1:=b0.trans (hb1.mono (by simp;omega))
    have hw1:=r1.lt
    have HT1:=HT.out.below b1 HT.out.1
    have X1:=(D'.out.below b1 hm).words
    clear hb1 r0 b0
    go_wp2_with fail
    go_at_call 73
    refine (Ep (d:=p) X1 (by omega) (by omega) hp6 HT1).mono ?_
    rintro e w3 ⟨v',rfl,D3,hb3⟩
    rw [show nf (sg nb x.natAbs) p=Ac x d n by rw [HD.out.1,Adb,HV.out]] at D3
    have u1:=r1.call hb3
    have bv:=b1.trans (hb3.mono (by have:=b1.size;omega))
    exact ze1f
theorem Vz (x y c:Nat) (w:World) (hx:x<4294967296) (hy:y<4294967296) (hc:c≤1) :
  Calls prog 221 #[.int .u32 (x:Int),.int .u32 (y:Int),.int .u32 (c:Int)] w fun e w'=>e=.returned (.tuple #[.int .u32 (((x+y+c) % 4294967296:Nat):Int),.int .u32 (((x+y+c) / 4294967296:Nat):Int)])∧w=w':=by
 have h1:(x:Int) % 18446744073709551616=(x:Int):=by omega
 have h2:(y:Int) % 18446744073709551616=(y:Int):=by omega
 have h3:(c:Int) % 18446744073709551616=(c:Int):=by omega
 obtain ⟨s,hs⟩:∃ s:Nat,(x:Int)+(y:Int)+(c:Int)=(s:Int):=⟨x+y+c,by omega⟩
 have hs2:x+y+c=s:=by omega
 have hsb:s<8589934592:=by omega
 rw [hs2]
 go_enter func221,ntmps221
 go_wp2_with fail
 refine bodyPost_ret (v:=.tuple #[.int .u32 ((s % 4294967296:Nat):Int),.int .u32 ((s / 4294967296:Nat):Int)]) ?_ rfl ⟨rfl,rfl⟩
 simp [results,results221,go_sem]
def Auo (w:World) (a b:List Nat) (g L:Nat) (cv i:Value) (wr:World):Prop :=
 ∃ (k:Nat) (os:List Nat) (cy:Nat),k≤L∧i=.int .i64 (k:Int)∧cv=.int .u32 (cy:Int)∧Hf wr w.heap.size (.slice (some ⟨g,0,none⟩) L L) (os++List.replicate (L - k) 0)∧os.length=k∧Az os∧cy≤1 ∧
  Bc os+4294967296 ^ k*cy=Bc (a.take k)+Bc (b.take k)∧Below w.heap.size w wr
theorem Aqi {b:List Nat} (ha:Az a) (hb:Az b) (hL:L=max a.length b.length+1) (hol:os.length=L) (hv:Bc os+4294967296 ^ L*cy=Bc (a.take L)+Bc (b.take L)):Bc os=Bc a+Bc b:=by
 rw [am (by omega),am (by omega)] at hv
 have h1:=Co ha
 have h2:=Co hb
 have p1:4294967296 ^ a.length≤4294967296 ^ (max a.length b.length):=ba (by decide) (by omega)
 have p2:4294967296 ^ b.length≤4294967296 ^ (max a.length b.length):=ba (by decide) (by omega)
 have p3:4294967296 ^ L=4294967296*4294967296 ^ (max a.length b.length):=by rw [hL,ce,ay]
 rcases co cy with h|h
 ·rw [h] at hv;omega
 ·have:4294967296 ^ L*1≤4294967296 ^ L*cy:=gu _ h
  omega
theorem Ahp (A B:Option Addr) (a b:List Nat) (c1 c2 m:Nat) (w:World) (hm:m≤w.heap.size) (h1:Aj w m A (w32 a)) (h2:Aj w m B (w32 b)) (ha:Az a) (hb:Az b) (l1:a.length≤90000) (l2:b.length≤90000) :
  Calls prog 203 #[.slice A a.length c1,.slice B b.length c2] w fun e w' =>
   ∃ G g,e=.returned (.slice G (Ad (Bc a+Bc b)).length g)∧(G=none→g=0)∧(Ad (Bc a+Bc b)).length≤g∧Aj w' w'.heap.size G (w32 (Ad (Bc a+Bc b)))∧Below w.heap.size w w':=by
 have H1:=mi h1
 have H2:=mi h2
 have HA:=mi ha
 have HB:=mi hb
 obtain ⟨L,hL⟩:∃ L,L=max a.length b.length+1:=⟨_,rfl⟩
 have hLi:max (a.length:Int) (b.length:Int)+1=(L:Int):=by omega
 have hL6:L≤100000:=by omega
 have HL:=mi hL
 obtain ⟨i0,hi,hz0,hz1,hz2⟩:=info_parts XL
 clear h1 h2 ha hb hL
 go_enter func203,ntmps203
 go_wp2_with (with_reducible refine wpList_make_full _ rfl (.tmp 13) (.tmp 13) 90 rfl w.heap.size 143 i0 (.int .u32 0) 1 Hp hi hz0 hz1 .i64 .i64 _ _ L rfl rfl rfl rfl (by rw [hz2];omega) (by unfold maxLen;omega) (aa _) ?_;intro w2 hown hg)
 have hst:=(ah w.heap.size w).grown hg (aa _) (fun k h=>by simp at h)
 have hown2:=Adf hown
 obtain ⟨g,hg1⟩:∃ g,g=w.heap.size:=⟨_,rfl⟩
 have hgw:=mi hg1
 rw [←hg1]
 rw [show Hf w2 w.heap.size (.slice (some ⟨w.heap.size,0,none⟩) L L) (List.replicate L 0)=Hf w2 w.heap.size (.slice (some ⟨g,0,none⟩) L L) (List.replicate L 0) by rw [hg1]] at hown2
 clear hown hg hi hz0 hz1 hz2 hg1
 go_loopw [6,17] (fun cv i wr=>Auo w a b g L cv i wr) (fun _ i _=>L - (intOf i).toNat)
 case atStart=>exact ⟨0,[],0,af _,rfl,rfl,by simpa using hown2,rfl,by simp [Az],by omega,by simp [Bc],hst⟩
 case round =>
  obtain ⟨k,os,cy,hk,rfl,rfl,hown,hol,hok,hcy,hv,hb⟩:=hrel
  have HO:=mi hown
  have HOL:=mi hol
  have HOK:=mi hok
  have HV:=mi hv
  have hsz:=hb.size
  have hlen:=mi (show L=(os++List.replicate (L - k) 0).length by simp;omega)
  clear hown hol hok hv hown2 hst
  by_cases hlt:k<L
  ·obtain ⟨x,hx⟩:∃ x,x=a[k]?.getD 0:=⟨_,rfl⟩
   obtain ⟨y,hy⟩:∃ y,y=b[k]?.getD 0:=⟨_,rfl⟩
   have bx:x<4294967296:=by
    rw [hx]
    by_cases h:k<a.length
    ·rw [gE h];exact HA.out _ (ff h)
    ·rw [fg (by omega)];decide
   have by':y<4294967296:=by
    rw [hy]
    by_cases h:k<b.length
    ·rw [gE h];exact HB.out _ (ff h)
    ·rw [fg (by omega)];decide
   have hat1:=Zs A a c1 k m wr (H1.out.below hb hm) (by omega) (by omega)
   have hat2:=Zs B b c2 k m wr (H2.out.below hb hm) (by omega) (by omega)
   rw [←hx] at hat1
   rw [←hy] at hat2
   have hadd:=Vz x y cy wr bx by' hcy
   obtain ⟨z,hz⟩:∃ z,z=(x+y+cy) % 4294967296:=⟨_,rfl⟩
   obtain ⟨c',hc'⟩:∃ c',c'=(x+y+cy) / 4294967296:=⟨_,rfl⟩
   rw [←hz,←hc'] at hadd
   have HZ:=mi (show z+4294967296*c'=cy+x+y by omega)
   have HZB:=mi (show z<4294967296 by omega)
   have HCB:=mi (show c'≤1 by omega)
   have HAT1:=mi hat1
   have HAT2:=mi hat2
   have HADD:=mi hadd
   have HX:=mi hx.symm
   have HY:=mi hy.symm
   have hkl':(k:Int)<(L:Int):=by omega
   have f1:wr.cell? ⟨g,k,none⟩=some (.int .u32 0):=by
    have:=HO.out.cellA (j:=k) (z:=0) (by rw [dt (by rw [HOL.out];omega),HOL.out,em];rw [jr];simp;omega)
    simpa using this
   have f2:∀ j,wr.frozen? ⟨g,j,none⟩=false:=fun j=>HO.out.freeA hlen.out j
   clear hx hy hz hc' hat1 hat2 hadd
   go_wp2_with fail
   go_at_call 213
   refine HAT1.out.mono ?_
   rintro e wq ⟨rfl,rfl⟩
   go_wp2_with fail
   go_at_call 213
   refine HAT2.out.mono ?_
   rintro e wq ⟨rfl,rfl⟩
   go_wp2_with fail
   go_at_call 221
   refine HADD.out.mono ?_
   rintro e wq ⟨rfl,rfl⟩
   go_wp2_with fail
   refine ⟨⟨k+1,os++[z],c',by omega,by go_num,rfl,?_,by rw [aq,HOL.out];rfl,IC HOK.out HZB.out,HCB.out,AlV HOL.out HX.out HY.out HV.out HZ.out,hb.setCell (by have:=hgw.out;simp;omega) _⟩,by simp [intOf];omega⟩
   have h5:=HO.out.put hlen.out k z
   rw [Adg HOL.out hlt] at h5
   exact h5
  ·have hkL:k=L:=by omega
   have hle:¬ (k:Int)<(L:Int):=by omega
   have hO:=HO.out
   rw [hkL,em,lg,av] at hO
   have hol:=HOL.out.trans hkL
   have hL6':os.length≤1000000:=by omega
   have HWV:=mi (Aqi HA.out HB.out HL.out hol (by have:=HV.out;rw [hkL] at this;exact this))
   have HGC:=mi hO.cap_.2.2.2
   have hcall:=Gn (some ⟨g,0,none⟩) os os.length wr.heap.size wr HGC.out (aa _) (lT hL6' (by decide))
   exact ze4f
def Aup (w:World) (a:List Nat) (u i:Value) (wr:World):Prop:=∃ k:Nat,k≤a.length∧i=.int .i64 ((k:Int) - 1)∧u=.int .u64 (Bc (a.drop k):Int)∧w=wr
theorem Adm (A:Option Addr) (a:List Nat) (c m:Nat) (w:World) (h:Aj w m A (w32 a)) (ha:Az a) (hl:a.length≤2) :
  Calls prog 205 #[.slice A a.length c] w fun e w'=>e=.returned (.int .u64 (Bc a:Int))∧w=w':=by
 have H:=mi h
 have HA:=mi ha
 clear h ha
 go_enter func205,ntmps205
 go_wp2_with fail
 go_loopw [3,4] (fun u i wr=>Aup w a u i wr) (fun _ i _=>(intOf i+1).toNat)
 case atStart=>exact ⟨a.length,aa _,by go_num,by simp [Bc],rfl⟩
 case round =>
  obtain ⟨k,hk,rfl,rfl,rfl⟩:=hrel
  by_cases hk0:k=0
  ·subst hk0
   have e:((0:Nat):Int) - 1 = -1:=rfl
   rw [e,ju]
   go_wp2_with fail
   go_ret
   exact ⟨rfl,rfl⟩
  ·obtain ⟨j,rfl⟩:∃ j,k=j+1:=⟨k - 1,by omega⟩
   have e:((j+1:Nat):Int) - 1=(j:Int):=by omega
   rw [e]
   have hj:j<a.length:=by omega
   obtain ⟨b1,o1,x,rfl,q1,_,hx,g1⟩:=H.out.w32_ hj
   have bx:=HA.out x (gM hx)
   obtain ⟨mm,hm⟩:∃ mm,mm=Bc (a.drop (j+1)):=⟨_,rfl⟩
   have bm:mm<4294967296:=by
    have h1:=Co (ws:=a.drop (j+1)) (fun z hz=>HA.out z (jv hz))
    have h2:(a.drop (j+1)).length≤1:=by simp;omega
    have h3:4294967296 ^ (a.drop (j+1)).length≤4294967296 ^ 1:=ba (by decide) h2
    omega
   have hd:Bc (a.drop j)=x+4294967296*mm:=by
    rw [hm,dm hj]
    have:a[j]=x:=by rw [gE hj] at hx;simpa using hx
    rw [this]
    rfl
   rw [←hm]
   have HD:=mi hd
   have w3:IntKind.u64.wrap ((mm:Int)*4294967296)=(mm:Int)*4294967296:=by rw [gk];omega
   obtain ⟨s,hs⟩:∃ s,s=x+4294967296*mm:=⟨_,rfl⟩
   have hor:bits .or .u64 ((mm:Int)*4294967296) (x:Int)=(s:Int):=by rw [hs];exact Aqa bm bx
   have HS:=mi hs
   have hji:(j:Int)<(a.length:Int):=by omega
   clear hx hm hd hs hk0 e
   go_wp2_with fail
   exact ⟨⟨j,by omega,by go_num,by rw [HD.out,←HS.out],rfl⟩,by simp [intOf]⟩
def Abp (x:Int):Bool:=decide (-9223372036854775808≤x∧x<9223372036854775808)
def Aqj (x:Int):Int:=if Abp x=true then x else 0
theorem Zu (h:¬ (-9223372036854775808≤x∧x<9223372036854775808)):Abp x=false∧Aqj x=0:=by
 have h1:Abp x=false:=decide_eq_false h
 exact ⟨h1,by unfold Aqj;rw [h1];rfl⟩
theorem Qa (h : -9223372036854775808≤x∧x<9223372036854775808):Abp x=true∧Aqj x=x:=by
 have h1:Abp x=true:=decide_eq_true h
 exact ⟨h1,by unfold Aqj;rw [h1];rfl⟩
theorem Auq (h:p:=by
 go_wp2_with fail
 exact bodyPost_ret (v:=.tuple #[.int .i64 0,.bool false]) (by simp [results,results124,go_sem]) rfl ⟨by rw [HV.out.1,HV.out.2],HB.out⟩):p:=h
theorem Ahq (D:DyR w lo m v x d) (hd0:d=0) (hm:m≤w.heap.size) (hl:(Ad x.natAbs).length≤50000) :
  Calls prog 124 #[v] w fun e w'=>e=.returned (.tuple #[.int .i64 (Aqj x),.bool (Abp x)])∧Below w.heap.size w w':=by
 obtain ⟨nb,A,L,c,rfl,HD⟩:=D.form
 have D':=mi D
 have b0:Below w.heap.size w (w.alloc (.cells #[.bool nb,.slice A L c,.int .i64 (d:Int)] 43)):=Au (ah _ _) _
 have hL:L=(Ad x.natAbs).length:=HD.out.2.1
 have HNB:=mi HD.out.1
 have HL:=mi hL
 have hdi:decide ((0:Int)<(d:Int))=false:=decide_eq_false (by omega)
 have hdz:¬ (0:Int)<(d:Int):=by omega
 clear D hd0 hL
 go_enter func124,ntmps124
 go_wp2_with fail
 go_at_call 71
 refine (GK (D'.out.below b0 hm) (by simp;omega) (by omega)).mono ?_
 rintro e w1 ⟨nb',A',L',c',he,rfl,hb1⟩
 cases he
 have hL:=HL.out
 have b1:=b0.trans (hb1.mono (by simp))
 have X:=HD.out.2.2.2.2.1.below b1 hm
 obtain ⟨n,hn⟩:∃ n,n=x.natAbs:=⟨_,rfl⟩
 rw [←hn] at hL HL hl X
 have HX:=mi X
 have HN:=mi hn
 have HB:=mi b1
 clear X hn HD D' b0 hb1 b1
 by_cases hbig:2<L
 ·have hx:¬ (-9223372036854775808≤x∧x<9223372036854775808):=by
   intro h
   have:(Ad n).length≤2:=AC (by have:=HN.out;omega)
   omega
  have HV:=mi (Zu hx)
  have hbi:(2:Int)<(L:Int):=by omega
  clear hx hL
  exact Auq
 ·have hbi:decide ((2:Int)<(L:Int))=false:=decide_eq_false (by omega)
  have hpu:=Adm A (Ad n) c m w1 HX.out (Bd n) (by omega)
  rw [←hL,AI] at hpu
  have hn64:n<18446744073709551616:=by
   have h1:=Co (Bd n)
   rw [AI] at h1
   have h3:4294967296 ^ (Ad n).length≤4294967296 ^ 2:=ba (by decide) (by omega)
   omega
  have HPU:=mi hpu
  have hbn:¬ (2:Int)<(L:Int):=by omega
  have hbl:(L:Int)≤2:=by omega
  clear hpu hL hbig
  go_wp2_with fail
  go_at_call 205
  refine HPU.out.mono ?_
  rintro e wq ⟨rfl,rfl⟩
  cases nb with
  | true =>
   have hx:x<0:=by simpa using HNB.out.symm
   by_cases h63:n≤9223372036854775808
   ·have HV:=mi (Qa (x:=x) (by have:=HN.out;omega))
    have hd:decide ((n:Int)≤9223372036854775808)=true:=decide_eq_true (by omega)
    have hxe:x = -(n:Int):=by have:=HN.out;omega
    have hmp:(1:Int)≤(n:Int):=by omega
    have HXE:=mi hxe
    clear hx hxe
    go_wp2_with fail
    exact bodyPost_ret (v:=.tuple #[.int .i64 x,.bool true]) (by simp [results,results124,go_sem];rw [HXE.out];first|(rw [gk];unfold wrap64;omega)|(show IntKind.i64.wrap _=_;rw [gk,ld];omega)) rfl ⟨by rw [HV.out.1,HV.out.2],HB.out⟩
   ·have HV:=mi (Zu (x:=x) (by have:=HN.out;omega))
    have hd:decide ((n:Int)≤9223372036854775808)=false:=decide_eq_false (by omega)
    clear hx
    exact Auq
  | false =>
   have hx:0≤x:=by simpa using HNB.out.symm
   by_cases h63:n<9223372036854775808
   ·have HV:=mi (Qa (x:=x) (by have:=HN.out;omega))
    have hd:decide ((n:Int)<9223372036854775808)=true:=decide_eq_true (by omega)
    have hxe:x=(n:Int):=by have:=HN.out;omega
    have HXE:=mi hxe
    clear hx hxe
    go_wp2_with fail
    exact bodyPost_ret (v:=.tuple #[.int .i64 x,.bool true]) (by simp [results,results124,go_sem];rw [HXE.out]) rfl ⟨by rw [HV.out.1,HV.out.2],HB.out⟩
   ·have HV:=mi (Zu (x:=x) (by have:=HN.out;omega))
    have hd:decide ((n:Int)<9223372036854775808)=false:=decide_eq_false (by omega)
    clear hx
    exact Auq
theorem Aqk {a:Nat} (h:WdR w m v a) (h2:WdR w m v2 b) (hm:m≤w.heap.size) (l1:(Ad a).length≤90000) (l2:(Ad b).length≤90000) :
  Calls prog 203 #[v,v2] w fun e w'=>∃ v',e=.returned v'∧WdR w' w'.heap.size v' (a+b)∧Below w.heap.size w w':=by
 obtain ⟨A,c,rfl,_,_,h3⟩:=h
 obtain ⟨B,c',rfl,_,_,h4⟩:=h2
 have hc:=Ahp A B (Ad a) (Ad b) c c' m w hm h3 h4 (Bd a) (Bd b) l1 l2
 rw [AI,AI] at hc
 refine hc.mono ?_
 rintro e w' ⟨G,g,rfl,hG,hg,hC,hb⟩
 exact ⟨_,rfl,⟨G,g,rfl,hG,hg,hC⟩,hb⟩
theorem Aql (hx:x % 2=1) (hk:0<k):AtT x.natAbs k=true:=by
 unfold AtT
 refine decide_eq_true ?_
 intro h0
 obtain ⟨j,rfl⟩:∃ j,k=j+1:=⟨k - 1,by omega⟩
 have h1:2 ∣ x.natAbs:=Nat.dvd_trans ⟨2 ^ j,by rw [ce,ay]⟩ (Nat.dvd_of_mod_eq_zero h0)
 omega
theorem IE:Ad 1=[1]:=by rw [Eo (by decide),show 1 / 4294967296=0 by decide,Bf]
theorem Mj:(Ad 1).length=1:=by rw [IE];rfl
theorem Adn (w:World):WdR (w.alloc (.cells #[.int .u32 1] 143)) (w.heap.size+1) (.slice (some ⟨w.heap.size,0,none⟩) 1 1) 1 :=
 ⟨some ⟨w.heap.size,0,none⟩,1,by rw [IE];rfl,by simp,by rw [IE];decide,by
  rw [IE]
  exact (BQ.new_ w [.int .u32 1] 143).cells_ (Nat.lt_succ_self _)⟩
theorem Nl {v5:Value} (h2:tmps.getD 4 undef=.pointer (some ⟨b,0,none⟩)) (h5:tmps.getD 5 undef=v5) (hB:BQ w b [v0,v1,v2] 43) :
  (results Tryz.f122 tmps).run prog w=.ok (.tuple #[.agg #[v0,v1,v2],v5]) w:=by
 have k0:=hB.cell 0
 have k1:=hB.cell 1
 have k2:=hB.cell 2
 simp at k0 k1 k2
 simp at h2 h5
 simp [results,results122,go_sem,h2,h5,k0,k1,k2]
theorem Sc (D:DyR w lo m v x d) (hm:m≤w.heap.size) (hl:(Ad x.natAbs).length≤50000) (hden:den≤65536) (ht:An w) :
  Calls prog 122 #[v,.int .i64 (den:Int)] w fun e w'=>∃ v',e=.returned (.tuple #[v',.nilIface])∧DyR w' w.heap.size w'.heap.size v' (BX x d den).1 (BX x d den).2∧Below w.heap.size w w':=by
 have n1:decide ((den:Int)<0)=false:=decide_eq_false (by omega)
 have n2:decide ((65536:Int)<(den:Int))=false:=decide_eq_false (by omega)
 have n3:¬ (den:Int)<0:=by omega
 have n4:¬ (65536:Int)<(den:Int):=by omega
 have hdr:=D.bound
 have hd6:=hdr.1
 have HDR:=mi hdr.2
 clear hdr
 by_cases hle:d≤den
 ·as_aux_lemma =>
  have HV:=mi (show BX x d den=(x,d) from if_pos hle)
  have n5:(d:Int)≤(den:Int):=by omega
  obtain ⟨nb,A,L,c,rfl,HD⟩:=D.form
  have D':=mi D
  have HT:=mi ht
  clear D ht
  have b0:Below w.heap.size w ((w.alloc (.cells #[.bool nb,.slice A L c,.int .i64 (d:Int)] 43)).alloc (.cells #[.bool false,.slice none 0 0,.int .i64 0] 43)):=Au (Au (ah _ _) _) _
  have r0:=BQ.new_ (w.alloc (.cells #[.bool nb,.slice A L c,.int .i64 (d:Int)] 43)) [.bool false,.slice none 0 0,.int .i64 0] 43
  rw [show (w.alloc (.cells #[.bool nb,.slice A L c,.int .i64 (d:Int)] 43)).heap.size=w.heap.size+1 by simp] at r0
  go_enter func122,ntmps122
  go_wp2_with fail
  go_at_call 71
  refine (GK (D'.out.below b0 hm) (by simp;omega) (by omega)).mono ?_
  rintro e w1 ⟨nb',A',L',c',he,rfl,hb1⟩
  cases he
  have r1:=r0.call hb1
  have b1:=b0.trans (hb1.mono (by simp;omega))
  have hw1:=r1.lt
  have HT1:=HT.out.below b1 HT.out.1
  have X1:=(D'.out.below b1 hm).words
  clear hb1 r0 b0
  go_wp2_with fail
  go_at_call 73
  refine (Ep (d:=d) X1 (by omega) (by omega) hd6 HT1).mono ?_
  rintro e w3 ⟨v',rfl,D3,hb3⟩
  rw [HD.out.1,Adb,Ni HDR.out,←HV.out] at D3
  have u1:=r1.call hb3
  have bv:=b1.trans (hb3.mono (by have:=b1.size;omega))
  obtain ⟨nb3,A3,L3,c3,rfl,_⟩:=D3.form
  have D3':=mi D3
  clear D3 hb3 r1 b1
  have q0:w3.cell? ⟨w.heap.size+1,0,none⟩=some (.bool false):=u1.cell 0
  have q1:w3.cell? ⟨w.heap.size+1,1,none⟩=some (.slice none 0 0):=u1.cell 1
  have q2:w3.cell? ⟨w.heap.size+1,2,none⟩=some (.int .i64 0):=u1.cell 2
  have qf:=u1.free
  have hu1:=u1.lt
  go_wp2_with fail
  refine bodyPost_ret (Nl rfl rfl (((u1.set_ 0 _).set_ 1 _).set_ 2 _)) rfl ⟨_,rfl,?_,((bv.setCell (by simp) _).setCell (by simp) _).setCell (by simp) _⟩
  exact Aqh
 ·as_aux_lemma =>
  have n5:¬ (d:Int)≤(den:Int):=by omega
  obtain ⟨k,hk⟩:∃ k:Nat,k=d - den:=⟨_,rfl⟩
  have HV:=mi (show BX x d den=nf (x / 2 ^ k) den by rw [hk];exact if_neg hle)
  have n6:(d:Int) - (den:Int)=(k:Int):=by omega
  have hk6:k≤1000000:=by omega
  have HC:=mi (Aql (x:=x) (k:=k) (HDR.out (by omega)) (by omega))
  have hln:(Ad (x.natAbs / 2 ^ k)).length≤50000:=lT (Bt (Nat.div_le_self _ _)) hl
  have hln1:(Ad (x.natAbs / 2 ^ k+1)).length≤100000:=by
   have h1:=Mi (x.natAbs / 2 ^ k) 1
   have h2:=Mj
   omega
  clear hk
  obtain ⟨nb,A,L,c,rfl,HD⟩:=D.form
  have D':=mi D
  have HT:=mi ht
  clear D ht
  have b0:Below w.heap.size w ((w.alloc (.cells #[.bool nb,.slice A L c,.int .i64 (d:Int)] 43)).alloc (.cells #[.bool false,.slice none 0 0,.int .i64 0] 43)):=Au (Au (ah _ _) _) _
  have r0:=BQ.new_ (w.alloc (.cells #[.bool nb,.slice A L c,.int .i64 (d:Int)] 43)) [.bool false,.slice none 0 0,.int .i64 0] 43
  rw [show (w.alloc (.cells #[.bool nb,.slice A L c,.int .i64 (d:Int)] 43)).heap.size=w.heap.size+1 by simp] at r0
  go_enter func122,ntmps122
  go_wp2_with fail
  go_at_call 71
  refine (GK (D'.out.below b0 hm) (by simp;omega) (by omega)).mono ?_
  rintro e w1 ⟨nb',A',L',c',he,rfl,hb1⟩
  cases he
  have r1:=r0.call hb1
  have b1:=b0.trans (hb1.mono (by simp;omega))
  have hw1:=r1.lt
  have HT1:=HT.out.below b1 HT.out.1
  have X1:=(D'.out.below b1 hm).words
  clear hb1 r0 b0
  go_wp2_with fail
  go_at_call 161
  refine (Tz X1 (by omega) (by omega) hk6).mono ?_
  rintro e w2 ⟨v2,rfl,Y,hb2⟩
  have r2:=r1.call hb2
  have b2:=b1.trans (hb2.mono (by have:=b1.size;omega))
  have HT2:=HT1.call hb2
  obtain ⟨A2,L2,c2,rfl⟩:=Y.form
  have hw2:=r2.lt
  clear hb2 r1 b1 HT1
  have hnb:=HD.out.1
  cases nb with
  | false =>
   as_aux_lemma =>
   have hx:0≤x:=by simpa using hnb.symm
   have HX:=mi hx
   clear hnb hx
   go_wp2_with fail
   go_at_call 73
   refine (Ep (d:=den) Y (aa _) (by omega) hden HT2).mono ?_
   rintro e w3 ⟨v',rfl,D3,hb3⟩
   rw [ApZ HX.out,←HV.out] at D3
   have u1:=r2.call hb3
   have bv:=b2.trans (hb3.mono (by have:=b2.size;omega))
   obtain ⟨nb3,A3,L3,c3,rfl,_⟩:=D3.form
   have D3':=mi D3
   clear D3 hb3 r2 b2
   have q0:w3.cell? ⟨w.heap.size+1,0,none⟩=some (.bool false):=u1.cell 0
   have q1:w3.cell? ⟨w.heap.size+1,1,none⟩=some (.slice none 0 0):=u1.cell 1
   have q2:w3.cell? ⟨w.heap.size+1,2,none⟩=some (.int .i64 0):=u1.cell 2
   have qf:=u1.free
   have hu1:=u1.lt
   go_wp2_with fail
   refine bodyPost_ret (Nl rfl rfl (((u1.set_ 0 _).set_ 1 _).set_ 2 _)) rfl ⟨_,rfl,?_,((bv.setCell (by simp) _).setCell (by simp) _).setCell (by simp) _⟩
   exact Aqh
  | true =>
   as_aux_lemma =>
   have hx:x<0:=by simpa using hnb.symm
   have HX:=mi hx
   clear hnb hx
   have BA:=al_ w2 (.cells #[.int .u32 1] 143)
   have r4:=r2.call BA
   have b4:=b2.trans (BA.mono (by have:=b2.size;omega))
   have HT4:=HT2.call BA
   have Y4:=(Y.below BA (aa _)).more (show w2.heap.size≤w2.heap.size+1 by omega)
   have O4:=Adn w2
   clear BA Y r2 b2 HT2
   go_wp2_with fail
   go_at_call 203
   refine (Aqk Y4 O4 (by simp) (by omega) (by rw [Mj];decide)).mono ?_
   rintro e w5 ⟨v5,rfl,Z,hb5⟩
   have r5:=r4.call hb5
   have b5:=b4.trans (hb5.mono (by have:=b4.size;omega))
   have HT5:=HT4.call hb5
   obtain ⟨A5,L5,c5,rfl⟩:=Z.form
   have hw5:=r5.lt
   clear hb5 r4 b4 HT4
   go_wp2_with fail
   go_at_call 73
   refine (Ep (d:=den) Z (aa _) (by omega) hden HT5).mono ?_
   rintro e w3 ⟨v',rfl,D3,hb3⟩
   rw [Abk HX.out HC.out,←HV.out] at D3
   have u1:=r5.call hb3
   have bv:=b5.trans (hb3.mono (by have:=b5.size;omega))
   obtain ⟨nb3,A3,L3,c3,rfl,_⟩:=D3.form
   have D3':=mi D3
   clear D3 hb3 r5 b5
   have q0:w3.cell? ⟨w.heap.size+1,0,none⟩=some (.bool false):=u1.cell 0
   have q1:w3.cell? ⟨w.heap.size+1,1,none⟩=some (.slice none 0 0):=u1.cell 1
   have q2:w3.cell? ⟨w.heap.size+1,2,none⟩=some (.int .i64 0):=u1.cell 2
   have qf:=u1.free
   have hu1:=u1.lt
   go_wp2_with fail
   refine bodyPost_ret (Nl rfl rfl (((u1.set_ 0 _).set_ 1 _).set_ 2 _)) rfl ⟨_,rfl,?_,((bv.setCell (by simp) _).setCell (by simp) _).setCell (by simp) _⟩
   exact Aqh
def OM (P:Program) (ops:Array Oper) (Q:Exit→Act→World→Prop) (rest:List Oper):Exit→Act→World→Prop
 | .normal,a,w=>wpList P ops Q rest a w
 | e,a,w=>Q e a w
section
variable {P:Program} {md:Region.Mode} {Q:Exit→Act→World→Prop}
theorem Sd {ops:Array Oper}:∀ (f:Nat) (listed:Array Bool) (a:Act) (w:World),wpAny P md ops Q f listed a w→wpAny P md ops Q (f+1) listed a w
 | 0,listed,a,w,h=>⟨fun _=>h.2,by rw [h.1];intro i hi;cases hi⟩
 | f+1,listed,a,w,h=>⟨h.1,fun i hi=>wpOp_mono (fun a' w' h'=>Sd f _ a' w' h') (h.2 i hi)⟩
theorem Se {ops:Array Oper} {g:Nat} {listed:Array Bool} {a:Act} {w:World} (h:wpAny P md ops Q g listed a w):∀ f,wpAny P md ops Q (f+g) listed a w
 | 0=>by rw [ax];exact h
 | f+1=>by rw [show f+1+g=(f+g)+1 by omega];exact Sd _ _ _ _ (Se h f)
def Abq (md:Region.Mode) (ops:Array Oper) (n:Nat):Bool:=(List.range n).all fun i=>match ops[i]? with
 | none=>false
 | some o=>(o.after.all fun e=>!Region.binds md e || decide (e.on<i)) && (match o.guard with|none=>true|some (g,_)=>decide (g<n))
def IG (N n:Nat):Array Bool:=((List.range N).map fun j=>decide (j<n)).toArray
def Ly (md:Region.Mode) (ops:Array Oper) (n:Nat):Bool :=
 decide (n<ops.size) && Region.sinkB md ops n && Region.chainB md ops n && Abq md ops n && Region.seqB md ops (ops.size - n) n (IG ops.size n)
theorem TA (h:Abq md ops n=true) (hi:i<n) (ho:ops[i]?=some o) :
  (∀ e∈o.after,Region.binds md e=true→e.on<i)∧(∀ g b,o.guard=some (g,b)→g<n):=by
 have h1:=List.all_eq_true.1 h i (List.mem_range.2 hi)
 simp only [ho,aj,Array.all_eq_true_iff_forall_mem,de,lh,decide_eq_true_eq] at h1
 refine ⟨fun e he hb=>?_,fun g b hg=>?_⟩
 ·rcases h1.1 e he with h2|h2
  ·rw [h2] at hb;cases hb
  ·exact h2
 ·have h2:=h1.2
  rw [hg] at h2
  simpa using h2
theorem CO {listed:Array Bool} (hi:i<listed.size):listed.getD i true=listed.getD i false:=by simp [hi]
section
variable {l:List Oper} {n:Nat} {listed listed':Array Bool}
theorem TB (hn:n<l.toArray.size) {i:Nat} (hi:i<n):(l.take n).toArray[i]?=l.toArray[i]?:=by
 simp [bq,hi]
theorem Sf (hb:Abq md l.toArray n=true) (hn:n<l.toArray.size) (hs:listed.size=l.toArray.size) (hs':listed'.size=n) (he:∀ i,i<n→listed'.getD i false=listed.getD i false) {i:Nat} (hi:i<n) :
  i∈Region.ready md (l.take n).toArray listed' ↔ i∈Region.ready md l.toArray listed:=by
 rw [mem_ready,mem_ready,TB hn hi,CO (by omega),CO (by omega),he i hi]
 refine and_congr_right fun _=>exists_congr fun o=>and_congr_right fun ho=>?_
 have hk:=(TA hb hi ho).1
 refine forall_congr' fun e=>forall_congr' fun hm=>forall_congr' fun hbd=>?_
 rw [he e.on (by have:=hk e hm hbd;omega)]
theorem Ahr (h:i∈Region.ready md (l.take n).toArray listed'):i<n:=by
 obtain ⟨_,o,ho,_⟩:=mem_ready.1 h
 have:=(Array.getElem?_eq_some_iff.1 ho).1
 simp at this
 omega
theorem Abr (hb:Abq md l.toArray n=true) (hn:n<l.toArray.size) (hs':listed'.size=n) (hr:Region.ready md (l.take n).toArray listed'=[]):∀ i,i<n→listed'.getD i false=true:=by
 intro i
 induction i using Nat.strongRecOn with
 | _ i ih =>
  intro hi
  cases hl:listed'.getD i false with
  | true=>rfl
  | false =>
   exfalso
   have ho:l.toArray[i]?=some (l.toArray[i]'(by omega)):=ga (by omega)
   have hk:=(TA hb hi ho).1
   have:i∈Region.ready md (l.take n).toArray listed':=mem_ready.2 ⟨by rw [CO (by omega)];exact hl,_,(TB hn hi).trans ho,fun e he hbd=>ih e.on (hk e he hbd) (by have:=hk e he hbd;omega)⟩
   rw [hr] at this
   cases this
theorem Ami (inv:HeadInv md l.toArray n listed) (hn:n<l.toArray.size) (h:∀ i,i<n→listed.getD i false=true):listed=IG l.toArray.size n:=by
 refine Array.ext (by rw [inv.size];simp [IG]) fun i h1 h2=>?_
 have hi:i<l.toArray.size:=by rw [←inv.size];exact h1
 have e:(IG l.toArray.size n)[i]=decide (i<n):=by simp [IG]
 rw [e]
 by_cases hin:i<n
 ·have:=h i hin
  rw [decide_eq_true hin]
  simpa [h1] using this
 ·have:=inv.tail i (by omega) hi
  rw [decide_eq_false hin]
  simpa [h1] using this
theorem VB (h:LetsOut (OM P ops Q rest)):LetsOut Q:=h
theorem Amj {a:Act} {K K':Act→World→Prop} (hK:∀ a w,K a w→K' a w) (h:o.wp P a w K (OM P ops Q rest)):o.wp P a w K' Q:=by
 unfold Oper.wp at *
 generalize (execOp a.eval o).run P w=r at *
 cases r with
 | ok n w' =>
  cases n <;> simp only [Oper.upon] at h ⊢ <;>
   first
    | exact hK _ _ h
    | exact Calls.mono h (fun e w'' he=>by cases e <;> first|exact hK _ _ he|exact he)
    | exact Rows.mono h (fun _ _ he=>hK _ _ he)
 | halt x w'=>cases x <;> simp only [Oper.upon] at h ⊢ <;> exact h
theorem XR (hb:Abq md l.toArray n=true) (hn:n<l.toArray.size) {i:Nat} {o:Oper} (hi:i<n) (ho:l.toArray[i]?=some o) (tmps:Array Value) :
  Region.wanted o (yielded (l.take n).toArray tmps)=Region.wanted o (yielded l.toArray tmps):=by
 have hg:=(TA hb hi ho).2
 unfold Region.wanted
 cases h:o.guard with
 | none=>rfl
 | some gw =>
  obtain ⟨g,b⟩:=gw
  have e:yielded (l.take n).toArray tmps g=yielded l.toArray tmps g:=by
   unfold yielded
   rw [TB hn (hg g b h)]
  simp only [e]
theorem Ado (hb:Abq md l.toArray n=true) (hn:n<l.toArray.size) {i:Nat} (hi:i<n) {rest:List Oper} {a:Act} {w:World} {K K':Act→World→Prop} (hK:∀ a w,K a w→K' a w)
  (h:wpOp P (l.take n).toArray (OM P l.toArray Q rest) i K a w):wpOp P l.toArray Q i K' a w:=by
 have ho:l.toArray[i]?=some (l.toArray[i]'(by omega)):=ga (by omega)
 unfold wpOp at *
 rw [TB hn hi] at h
 simp only [ho] at h ⊢
 rw [XR hb hn hi ho] at h
 split
 ·rename_i hw
  rw [if_pos hw] at h
  rcases h with h|⟨h1,h2⟩
  ·exact .inl (Amj hK h)
  ·exact .inr ⟨h1,VB h2⟩
 ·rename_i hw
  rw [if_neg hw] at h
  exact hK _ _ h
theorem Nm (hB:Ly md l.toArray n=true):∀ (f:Nat) (listed listed':Array Bool) (a:Act) (w:World),HeadInv md l.toArray n listed→listed'.size=n→(∀ i,i<n→listed'.getD i false=listed.getD i false) →
  wpAny P md (l.take n).toArray (OM P l.toArray Q (l.drop n)) f listed' a w→wpAny P md l.toArray Q (f+(l.toArray.size - n)) listed a w:=by
 simp only [Ly,aj,decide_eq_true_eq] at hB
 obtain ⟨⟨⟨⟨hn,hs⟩,hc⟩,hb⟩,hq⟩:=hB
 have hend:∀ (listed listed':Array Bool) (a:Act) (w:World),HeadInv md l.toArray n listed→listed'.size=n→(∀ i,i<n→listed'.getD i false=listed.getD i false)→Region.ready md (l.take n).toArray listed'=[] →
   wpList P l.toArray Q (l.drop n) a w→wpAny P md l.toArray Q (l.toArray.size - n) listed a w:=fun listed listed' a w inv hs' he hr h=>by
  have hall:=Abr hb hn hs' hr
  have hl:=Ami inv hn (fun i hi=>by rw [←he i hi];exact hall i hi)
  rw [hl]
  have:=wpAny_of_seq (md:=md) (Q':=Q) (P:=P) (l.drop n) n (IG l.toArray.size n) a w (fun j=>by simp [cn]) (by
   rw [show (l.drop n).length=l.toArray.size - n by simp];exact hq) h
  rwa [show (l.drop n).length=l.toArray.size - n by simp] at this
 intro f
 induction f with
 | zero =>
  intro listed listed' a w inv hs' he h
  rw [ax]
  exact hend listed listed' a w inv hs' he h.1 h.2
 | succ f ih =>
  intro listed listed' a w inv hs' he h
  by_cases hr:Region.ready md (l.take n).toArray listed'=[]
  ·exact Se (hend listed listed' a w inv hs' he hr (h.1 hr)) _
  ·obtain ⟨i0,hi0⟩:=List.exists_mem_of_ne_nil _ hr
   have hin0:=Ahr hi0
   have hr0:=(Sf hb hn inv.size hs' he hin0).1 hi0
   have hun0:=(mem_ready.1 hr0).1
   rw [show f+1+(l.toArray.size - n)=(f+(l.toArray.size - n))+1 by omega]
   refine ⟨fun h0=>(by rw [h0] at hr0;cases hr0),fun i hi=>?_⟩
   have hin:i<n:=Nat.lt_of_not_le fun hle=>tail_waits hs hc hn inv _ i0 rfl hin0 hun0 i hle hi
   refine Ado hb hn hin (fun a' w' h'=>?_) (h.2 i ((Sf hb hn inv.size hs' he hin).2 hi))
   refine ih _ _ a' w' (inv.set hi hin) (by simp [hs']) (fun j hj=>?_) h'
   by_cases hij:i=j
   ·subst hij
    rw [ig,ig,Array.getElem?_setIfInBounds_self_of_lt (by omega),Array.getElem?_setIfInBounds_self_of_lt (by rw [inv.size];omega)]
   ·rw [getD_set_ne false hij,getD_set_ne false hij]
    exact he j hj
theorem FX {id:Nat} {a:Act} (n:Nat) (hm:P.follows .mixedOrders=true) (hB:Ly .any l.toArray n=true)
  (h:wpAny P .any (l.take n).toArray (OM P l.toArray Q (l.drop n)) n (Array.replicate n false) a w.drew):(Code.region id l.toArray true).wp P Q a w:=by
 have hB0:=hB
 simp only [Ly,aj,decide_eq_true_eq] at hB0
 have hn:=hB0.1.1.1.1
 refine wp_region_any hm ?_
 have inv0:HeadInv .any l.toArray n (Array.replicate l.toArray.size false) :=
  ⟨by simp,fun j oj _ hl=>(by rw [getD_replicate_false] at hl;cases hl),fun t _ ht=>getD_in (by simpa using ht) (getD_replicate_false _ _)⟩
 have:=Nm hB n (Array.replicate l.toArray.size false) (Array.replicate n false) a w.drew inv0 (by simp) (fun i _=>by rw [getD_replicate_false,getD_replicate_false]) h
 rwa [show n+(l.toArray.size - n)=l.toArray.size by omega] at this
end
/- A statement whose order is left open, walked by hand, under a condition S on the world. -/
end
abbrev mj:=@Addr.add_mid
end Go.Proofs.YtjlkgfeepocjfaaGreatDoor
