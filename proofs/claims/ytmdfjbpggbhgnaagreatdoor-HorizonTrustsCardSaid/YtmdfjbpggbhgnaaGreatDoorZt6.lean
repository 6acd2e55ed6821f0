/- What the proofs of this claim share, part 6. No conditions. -/
import Derived.Test.YtmdfjbpggbhgnaaGreatDoorZt3
import Derived.Test.YtmdfjbpggbhgnaaGreatDoorZt5
import Derived.Test.YtmdfjbpggbhgnaaGreatDoorZt4
import Derived.Test.YtmdfjbpggbhgnaaGreatDoorRows
import Derived.Laws.AppendOwnNone
import Derived.Laws.OwnMore
import Derived.Laws.Bits64b
import Derived.Deep.RegionHeld3
import Derived.Deep.DeepCutAuto
import Derived.Lib.Hide
set_option maxHeartbeats 8000000
set_option maxRecDepth 100000
set_option linter.unusedVariables false
set_option linter.unusedSimpArgs false
set_option linter.unusedSectionVars false
namespace Go.Proofs.YtmdfjbpggbhgnaaGreatDoor
open Go.RowKit Go.Deep
def w32 (ws:List Nat):List Value:=ws.map fun n:Nat=>.int .u32 (n:Int)
theorem LJ (ws:List Nat):(w32 ws).length=ws.length:=by simp [w32]
theorem Am.w32_ {w:World} {m:Nat} {A:Option Addr} {ws:List Nat} (h:Am w m A (w32 ws)) {k:Nat} (hk:k<ws.length) :
  ∃ b off z,A=some ⟨b,off,none⟩∧b<m∧b<w.heap.size∧ws[k]?=some z∧w.cell? ⟨b,off+k,none⟩=some (.int .u32 (z:Int)):=by
 obtain ⟨b,off,hA,hbm,hbs,hc⟩:=h (fun h0=>by have:=LJ ws;rw [h0] at this;simp at this;omega)
 exact ⟨b,off,ws[k],hA,hbm,hbs,List.getElem?_eq_getElem hk,hc k _ (by simp [w32,hk])⟩
def AO:List Nat→Nat
 | []=>0
 | x::l=>x+4294967296*AO l
def Az (ws:List Nat):Prop:=∀ x∈ws,x<4294967296
def Dr (ws:List Nat):Nat→Nat
 | 0=>0
 | n+1=>if ws[n]?.getD 0=0 then Dr ws n else n+1
def GI (ws:List Nat):List Nat:=ws.take (Dr ws ws.length)
theorem Dz (ws:List Nat) (n:Nat):Dr ws n≤n:=by
 induction n with
 | zero=>exact Nat.le_refl _
 | succ n ih =>
  unfold Dr
  split <;> omega
theorem Ci (ws:List Nat):(GI ws).length=Dr ws ws.length:=by
 have:=Dz ws ws.length
 simp [GI]
 omega
theorem Cc (a b:List Nat):AO (a++b)=AO a+4294967296 ^ a.length*AO b:=by
 induction a with
 | nil=>simp [AO]
 | cons x a ih =>
  simp only [List.cons_append,AO,List.length_cons,ih,Nat.pow_succ,Nat.mul_add]
  rw [Nat.add_assoc,Nat.mul_comm (4294967296 ^ a.length) 4294967296,Nat.mul_assoc]
theorem Ps (ws:List Nat):∀ n,n≤ws.length→AO (ws.take (Dr ws n))=AO (ws.take n)
 | 0,_=>rfl
 | n+1,h=>by
  unfold Dr
  split
  ·rename_i h0
   rw [Ps ws n (by omega),List.take_add_one,Cc]
   have:ws[n]?=some ws[n]:=List.getElem?_eq_getElem (by omega)
   rw [this] at h0 ⊢
   simp at h0
   simp [AO,h0]
  ·rfl
theorem UZ (ws:List Nat):AO (GI ws)=AO ws:=by
 have:=Ps ws ws.length (Nat.le_refl _)
 rw [List.take_length] at this
 exact this
theorem Sd (ws:List Nat):∀ n,n≤ws.length→0<Dr ws n→ws[Dr ws n - 1]?.getD 0≠0
 | 0,_,h=>by simp [Dr] at h
 | n+1,hn,h=>by
  unfold Dr at h ⊢
  split at h
  ·rename_i h0
   rw [if_pos h0]
   exact Sd ws n (by omega) h
  ·rename_i h0
   rw [if_neg h0]
   simpa using h0
def Adp (w:World) (ws:List Nat) (i:Value) (wr:World):Prop:=∃ k:Nat,k≤ws.length∧i=.int .i64 k∧Dr ws k=Dr ws ws.length∧w=wr
theorem ZP:(Tryz.prog.info? 126).map (fun i=>(i.zero,i.size,i.bytes))=some (some (.int .u32 0),1,4):=by kernel_rfl
theorem GJ:Tryz.prog.underlying 41=some (.slice 126):=by kernel_rfl
def Ds (w:World) (base:Nat) (v:Value) (xs:List Nat):Prop:=w.ownsRow base 126 1 v xs.length (w32 xs)
theorem Ds.nil_ (w:World) (base:Nat):Ds w base (.slice none 0 0) []:=World.ownsRow_nil w base _ _
theorem Ds.lit0 {w:World} {base:Nat} (h:base≤w.heap.size):Ds (w.alloc (.cells #[] 126)) base (.slice (some ⟨w.heap.size,0,none⟩) 0 0) []:=World.ownsRow_made w #[] 0 h (Nat.zero_le _) rfl
theorem Ds.view {w:World} {base:Nat} {v:Value} {xs:List Nat} (h:Ds w base v xs):∃ A c,v=.slice A xs.length c∧(A=none→c=0)∧Am w w.heap.size A (w32 xs):=by
 rcases h.2 with ⟨rfl,h0⟩|⟨g,cap,cur,rfl,hb,hg,hn,hm,hs,ht⟩
 ·have:xs=[]:=List.eq_nil_of_length_eq_zero h0
  subst this
  exact ⟨none,0,rfl,fun _=>rfl,Am.nil_⟩
 ·have hlt:=(World.ownsRow.lt h g rfl).2
  refine ⟨some ⟨g,0,none⟩,cap,rfl,by simp,fun _=>⟨g,0,rfl,hlt,hlt,fun j u hu=>?_⟩⟩
  have:=World.ownsRow.cells h (g:=g) rfl j u hu
  rcases j with _|j
  ·simpa [Addr.add] using this
  ·simpa [Addr.add] using this
theorem AaG {w:World} {ops:Array Oper} {rest:List Oper} {o:Oper} {a:Act} {Q:Exit→Act→World→Prop} (hgd:o.guard=none) (s x:Operand)
  (ho:o.op=.call { callee:=.builtin .append,args:=#[s,x],argTypes:=#[41,41] })
  (base:Nat) (v:Value) (xs ys:List Nat) (A:Option Addr) (c m:Nat) (hs:a.eval s=v) (hown:Ds w base v xs) (hx:a.eval x=.slice A ys.length c) (hn:A=none→c=0) (hc:Am w m A (w32 ys))
  (hlen:xs.length+ys.length≤1000000) (hbase:base≤w.heap.size)
  (h:∀ v' w',Ds w' base v' (xs++ys)→w.grownBy w' v.ownBlock→Below base w w'→wpList Tryz.prog ops Q rest (a.put o.dst v') w'):wpList Tryz.prog ops Q (o::rest) a w:=by
 obtain ⟨i0,hi,hz0,hz1,hz2⟩:=info_parts ZP
 rcases A with _|⟨b,off,l⟩
 ·have hy:ys=[]:=by
   rcases ys with _|⟨y,ys⟩
   ·rfl
   ·obtain ⟨b,off,hA,_⟩:=hc (by simp [w32])
    cases hA
  subst hy
  have hc0:=hn rfl
  subst hc0
  exact wpList_append_own_none hgd s x 41 ho base 126 i0 1 GJ hi v xs.length (w32 xs) hs hown hx (h v w (by rw [List.append_nil];exact hown) ⟨rfl,rfl,rfl,Nat.le_refl _,fun _ _ _=>rfl⟩ (Below.refl _ _))
 ·refine wpList_append_own w hgd s x 41 ho base 126 i0 (.int .u32 0) 1 4 GJ hi hz0 hz1 hz2 rfl (by decide) v xs.length (w32 xs) hs hown ⟨b,off,l⟩ ys.length c (w32 ys) hx (by simp [w32]) ?_ ?_ (by unfold maxLen;omega) (by omega) hbase (fun v' w' h1 h2 _=>h v' w' ?_ h2 ((Below.refl base w).grown h2 hbase (fun g hg=>(World.ownsRow.lt hown g hg).1)))
  ·intro j u hu
   obtain ⟨b',off',hA,_,_,hcc⟩:=hc (fun h0=>by rw [h0] at hu;simp at hu)
   cases hA
   have hu':=hcc j u hu
   rcases j with _|j
   ·simpa [Addr.add] using hu'
   ·simpa [Addr.add] using hu'
  ·intro u hu
   obtain ⟨z,_,rfl⟩:=List.mem_map.1 hu
   rfl
  ·have e:w32 (xs++ys)=w32 xs++w32 ys:=by simp [w32]
   unfold Ds
   rw [e,List.length_append]
   exact h1
theorem Ds.alloc {w:World} {base:Nat} {v:Value} {xs:List Nat} (h:Ds w base v xs) (o:Obj):Ds (w.alloc o) base v xs:=World.ownsRow.alloc h o
theorem Ds.drew {w:World} {base:Nat} {v:Value} {xs:List Nat} (h:Ds w base v xs):Ds w.drew base v xs:=h
theorem Ds.drewN {w:World} {base:Nat} {v:Value} {xs:List Nat} (h:Ds w base v xs) (n:Nat):Ds (w.drewN n) base v xs:=by
 induction n generalizing w with
 | zero=>exact h
 | succ n ih=>exact ih (w:=w.drew) h.drew
theorem Fx {w:World} {ops:Array Oper} {rest:List Oper} {o:Oper} {a:Act} {Q:Exit→Act→World→Prop} (hgd:o.guard=none) (s x:Operand)
  (ho:o.op=.call { callee:=.builtin .append,args:=#[s,x],argTypes:=#[41,41] })
  (base:Nat) (v:Value) (xs:List Nat) (z:Nat) (g:Nat) (hs:a.eval s=v) (hown:Ds w base v xs) (hx:a.eval x=.slice (some ⟨g,0,none⟩) 1 1) (hg:w.cell? ⟨g,0,none⟩=some (.int .u32 (z:Int)))
  (hlen:xs.length<1000000) (hbase:base≤w.heap.size)
  (h:∀ v' w',Ds w' base v' (xs++[z])→w.grownBy w' v.ownBlock→Below base w w'→wpList Tryz.prog ops Q rest (a.put o.dst v') w'):wpList Tryz.prog ops Q (o::rest) a w:=by
 have hgl:g<w.heap.size:=by
  rcases Nat.lt_or_ge g w.heap.size with h|h
  ·exact h
  ·simp [World.cell?,Array.getElem?_eq_none h] at hg
 exact AaG hgd s x ho base v xs [z] _ 1 w.heap.size hs hown hx (by simp) (fun _=>⟨g,0,rfl,hgl,hgl,fun j u hu=>by
  rcases j with _|j
  ·simp [w32] at hu;subst hu;exact hg
  ·simp [w32] at hu⟩) (by simp;omega) hbase h
def Ad (n:Nat):List Nat:=if h:n=0 then [] else n % 4294967296::Ad (n / 4294967296)
termination_by n
decreasing_by exact Nat.div_lt_self (by omega) (by decide)
theorem AP:Ad 0=[]:=by rw [Ad];simp
theorem CQ {n:Nat} (h:n≠0):Ad n=n % 4294967296::Ad (n / 4294967296):=by rw [Ad];simp [h]
theorem AV (n:Nat):Az (Ad n):=by
 induction n using Nat.strongRecOn with
 | _ n ih =>
  by_cases h:n=0
  ·subst h;rw [AP];intro x hx;cases hx
  ·rw [CQ h]
   intro x hx
   rcases List.mem_cons.1 hx with rfl|hx
   ·omega
   ·exact ih _ (Nat.div_lt_self (by omega) (by decide)) x hx
theorem AE (n:Nat):AO (Ad n)=n:=by
 induction n using Nat.strongRecOn with
 | _ n ih =>
  by_cases h:n=0
  ·subst h;rw [AP];rfl
  ·rw [CQ h]
   simp only [AO]
   rw [ih _ (Nat.div_lt_self (by omega) (by decide))]
   omega
theorem Va {ws:List Nat} (h:AO ws=0):∀ x∈ws,x=0:=by
 induction ws with
 | nil=>simp
 | cons x l ih =>
  simp only [AO] at h
  intro y hy
  rcases List.mem_cons.1 hy with rfl|hy
  ·omega
  ·exact ih (by omega) y hy
theorem MZ {ws:List Nat} (h:Az ws) (ht:ws≠[]→ws[ws.length - 1]?.getD 0≠0):Ad (AO ws)=ws:=by
 induction ws with
 | nil=>exact AP
 | cons x l ih =>
  have hx:=h x (by simp)
  have htop:=ht (by simp)
  have hl:Ad (AO l)=l:=ih (fun y hy=>h y (by simp [hy])) (fun hne=>by
   have hp:0<l.length:=List.length_pos_iff.2 hne
   have e:(x::l)[(x::l).length - 1]?=l[l.length - 1]?:=by
    rw [show (x::l).length - 1=(l.length - 1)+1 by simp;omega]
    rfl
   rw [e] at htop
   exact htop)
  have hne:AO (x::l)≠0:=fun h0=>by
   have hz:=Va h0
   apply htop
   have:(x::l)[(x::l).length - 1]?=some ((x::l)[(x::l).length - 1]'(by simp)):=List.getElem?_eq_getElem _
   rw [this]
   exact hz _ (List.getElem_mem _)
  rw [CQ hne]
  simp only [AO]
  rw [show (x+4294967296*AO l) % 4294967296=x by omega,show (x+4294967296*AO l) / 4294967296=AO l by omega,hl]
theorem Cv {ws:List Nat} (h:Az ws):GI ws=Ad (AO ws):=by
 rw [←UZ ws]
 refine (MZ (fun x hx=>h x (List.mem_of_mem_take hx)) (fun hne=>?_)).symm
 have hne:GI ws≠[]:=hne
 show (GI ws)[(GI ws).length - 1]?.getD 0≠0
 have hl:=Ci ws
 have hp:0<(GI ws).length:=List.length_pos_iff.2 hne
 have ht:=Sd ws ws.length (Nat.le_refl _) (by omega)
 rw [hl]
 show (ws.take (Dr ws ws.length))[Dr ws ws.length - 1]?.getD 0≠0
 rw [List.getElem?_take,if_pos (by omega)]
 exact ht
theorem Bb {n k:Nat} (h:n<4294967296 ^ k):(Ad n).length≤k:=by
 induction k generalizing n with
 | zero =>
  have:n=0:=by simpa using h
  subst this
  rw [AP]
  simp
 | succ k ih =>
  by_cases h0:n=0
  ·subst h0;rw [AP];simp
  ·rw [CQ h0]
   have:=ih (n:=n / 4294967296) (by rw [Nat.pow_succ] at h;exact Nat.div_lt_of_lt_mul (by rw [Nat.mul_comm];exact h))
   simp
   omega
theorem Ds.cap_ {w:World} {base n c:Nat} {A:Option Addr} {xs:List Nat} (h:Ds w base (.slice A n c) xs):n=xs.length∧n≤c∧(A=none→c=0)∧Am w w.heap.size A (w32 xs):=by
 have h2:=h.2
 obtain ⟨A',c',he,h1,h3⟩:=h.view
 cases he
 refine ⟨rfl,?_,h1,h3⟩
 rcases h2 with ⟨h0,hn⟩|⟨g,cap,cur,h0,hb,hg,hn,hm,hs,ht⟩
 ·omega
 ·cases h0
  omega
theorem Bn (a:List Nat) (k:Nat):AO (a.take (k+1))=AO (a.take k)+4294967296 ^ k*(a[k]?.getD 0):=by
 rw [List.take_add_one,Cc]
 by_cases h:k<a.length
 ·rw [List.getElem?_eq_getElem h,List.length_take,Nat.min_eq_left (by omega)]
  simp [AO]
 ·rw [List.getElem?_eq_none (by omega)]
  simp [AO]
theorem NT {a b os:List Nat} {k cy x y z c':Nat} (hol:os.length=k) (hx:a[k]?.getD 0=x) (hy:b[k]?.getD 0=y) (hv:AO os+4294967296 ^ k*cy=AO (a.take k)+AO (b.take k)) (hz:z+4294967296*c'=cy+x+y) :
  AO (os++[z])+4294967296 ^ (k+1)*c'=AO (a.take (k+1))+AO (b.take (k+1)):=by
 rw [Bn a,Bn b,hx,hy,Cc,hol,Nat.pow_succ,Nat.mul_assoc]
 have e1:AO [z]=z:=by simp [AO]
 rw [e1]
 have e2:4294967296 ^ k*z+4294967296 ^ k*(4294967296*c')=4294967296 ^ k*cy+4294967296 ^ k*x+4294967296 ^ k*y:=by
  rw [←Nat.mul_add,hz,Nat.mul_add,Nat.mul_add]
 omega
theorem BS {os:List Nat} {z:Nat} (h:Az os) (hz:z<4294967296):Az (os++[z]):=by
 intro q hq
 rcases List.mem_append.1 hq with hq|hq
 ·exact h q hq
 ·simp at hq
  omega
theorem Am.takeW {w:World} {m:Nat} {A:Option Addr} {ws:List Nat} (h:Am w m A (w32 ws)) (n:Nat):Am w m A (w32 (ws.take n)):=fun hx=>by
 have e:w32 (ws.take n)=(w32 ws).take n:=by simp [w32]
 obtain ⟨b,off,hA,hbm,hbs,hc⟩:=h (fun h0=>hx (by rw [e,h0];simp))
 refine ⟨b,off,hA,hbm,hbs,fun j u hu=>hc j u ?_⟩
 rw [e,List.getElem?_take] at hu
 split at hu
 ·exact hu
 ·cases hu
def Afs (w:World) (a b:List Nat) (v cv i:Value) (wr:World):Prop :=
 ∃ (k:Nat) (os:List Nat) (cy:Nat),k≤max a.length b.length∧i=.int .i64 (k:Int)∧cv=.int .u64 (cy:Int)∧Ds wr w.heap.size v os∧os.length=k∧Az os∧cy≤1 ∧
  AO os+4294967296 ^ k*cy=AO (a.take k)+AO (b.take k)∧Below w.heap.size w wr
theorem BV {ws:List Nat} (h:Az ws):AO ws<4294967296 ^ ws.length:=by
 induction ws with
 | nil=>simp [AO]
 | cons x l ih =>
  have h1:=h x (by simp)
  have h2:=ih (fun y hy=>h y (by simp [hy]))
  simp only [AO,List.length_cons,Nat.pow_succ]
  omega
theorem Na {ws:List Nat} {k x:Nat} (h:ws[k]?=some x):AO ws=AO (ws.take k)+4294967296 ^ k*(x+4294967296*AO (ws.drop (k+1))):=by
 have hk:=(List.getElem?_eq_some_iff.1 h).1
 have hx:=(List.getElem?_eq_some_iff.1 h).2
 have e:ws=ws.take k++x::ws.drop (k+1):=by
  rw [←hx,←List.drop_eq_getElem_cons hk,List.take_append_drop]
 have hl:(ws.take k).length=k:=by rw [List.length_take];omega
 conv=>lhs;rw [e]
 rw [Cc,hl]
 rfl
theorem Pt {K T1 T2 x y D:Nat} (h1:T1<K) (h:x<y):T1+K*(x+D)<T2+K*(y+D):=by
 have h2:K*(x+D+1)≤K*(y+D):=Nat.mul_le_mul_left K (by omega)
 rw [Nat.mul_add,Nat.mul_one] at h2
 omega
theorem Vb {a b:List Nat} {k x y:Nat} (oka:Az a) (okb:Az b) (hx:a[k]?=some x) (hy:b[k]?=some y) (hd:a.drop (k+1)=b.drop (k+1)) (hne:x≠y):decide (AO a<AO b)=decide (x<y):=by
 have ha:=Na hx
 have hb:=Na hy
 have hka:=(List.getElem?_eq_some_iff.1 hx).1
 have hkb:=(List.getElem?_eq_some_iff.1 hy).1
 have la:=BV (ws:=a.take k) (fun z hz=>oka z (List.mem_of_mem_take hz))
 have lb:=BV (ws:=b.take k) (fun z hz=>okb z (List.mem_of_mem_take hz))
 rw [List.length_take,Nat.min_eq_left (by omega)] at la lb
 rw [hd] at ha
 rcases Nat.lt_or_gt_of_ne hne with h|h
 ·have:=Pt (T2:=AO (b.take k)) (D:=4294967296*AO (b.drop (k+1))) la h
  rw [←ha,←hb] at this
  rw [decide_eq_true this,decide_eq_true h]
 ·have:=Pt (T2:=AO (a.take k)) (D:=4294967296*AO (b.drop (k+1))) lb h
  rw [←ha,←hb] at this
  rw [decide_eq_false (by omega),decide_eq_false (by omega)]
def Vc (a b:List Nat):Bool:=if a.length=b.length then decide (AO a<AO b) else decide (a.length<b.length)
def Adq (w:World) (a b:List Nat) (i:Value) (wr:World):Prop:=∃ k nq:Nat,k≤a.length∧i=.int .i64 ((k:Int) - 1)∧a.drop k=b.drop k∧w.drewN nq=wr
theorem Pu {a b:List Nat} {k x:Nat} (hx:a[k]?=some x) (hy:b[k]?=some x) (h:a.drop (k+1)=b.drop (k+1)):a.drop k=b.drop k:=by
 have hka:=(List.getElem?_eq_some_iff.1 hx)
 have hkb:=(List.getElem?_eq_some_iff.1 hy)
 rw [List.drop_eq_getElem_cons hka.1,List.drop_eq_getElem_cons hkb.1,hka.2,hkb.2,h]
theorem NU {a b os:List Nat} {k br x y z c':Nat} (hol:os.length=k) (hx:a[k]?.getD 0=x) (hy:b[k]?.getD 0=y) (hv:AO os+AO (b.take k)=AO (a.take k)+4294967296 ^ k*br) (hz:z+br+y=x+4294967296*c') :
  AO (os++[z])+AO (b.take (k+1))=AO (a.take (k+1))+4294967296 ^ (k+1)*c':=by
 rw [Bn a,Bn b,hx,hy,Cc,hol,Nat.pow_succ,Nat.mul_assoc]
 have e1:AO [z]=z:=by simp [AO]
 rw [e1]
 have e2:4294967296 ^ k*z+4294967296 ^ k*br+4294967296 ^ k*y=4294967296 ^ k*x+4294967296 ^ k*(4294967296*c'):=by
  rw [←Nat.mul_add,←Nat.mul_add,hz,Nat.mul_add]
 omega
theorem Adr {a b os:List Nat} {br:Nat} (hol:os.length=a.length) (hok:Az os) (hbr:br≤1) (hle:AO b≤AO a) (hv:AO os+AO b=AO a+4294967296 ^ a.length*br):AO os=AO a - AO b:=by
 have h:=BV hok
 rw [hol] at h
 rcases Nat.lt_or_ge 0 br with h0|h0
 ·have:br=1:=by omega
  subst this
  rw [Nat.mul_one] at hv
  omega
 ·have:br=0:=by omega
  subst this
  rw [Nat.mul_zero] at hv
  omega
def Aft (w:World) (a b:List Nat) (v cv i:Value) (wr:World):Prop :=
 ∃ (k:Nat) (os:List Nat) (br:Nat),k≤a.length∧i=.int .i64 (k:Int)∧cv=.int .i64 (br:Int)∧Ds wr w.heap.size v os∧os.length=k∧Az os∧br≤1 ∧
  AO os+AO (b.take k)=AO (a.take k)+4294967296 ^ k*br∧Below w.heap.size w wr
structure Ads (neg:Bool) (n:Nat) (den:Nat):Prop where
 zero:n=0→neg=false∧den=0
 fine:den≤65536
 odd:den≠0→n % 2=1
theorem Co {n:Nat} (h:n≠0):0<(Ad n).length:=by
 rw [CQ h]
 simp
theorem Nb {n:Nat} (h:n≠0):(Ad n)[0]?=some (n % 4294967296):=by
 rw [CQ h]
 rfl
theorem LL {n:Nat} (h:n≠0):(Ad n)[(Ad n).length - 1]?.getD 0≠0:=by
 induction n using Nat.strongRecOn with
 | _ n ih =>
  rw [CQ h]
  by_cases h2:n / 4294967296=0
  ·rw [h2,AP]
   simp
   omega
  ·have:=ih _ (Nat.div_lt_self (by omega) (by decide)) h2
   have hl:=Co h2
   rw [show (n % 4294967296::Ad (n / 4294967296)).length - 1=((Ad (n / 4294967296)).length - 1)+1 by simp;omega]
   exact this
def Bh (w:World) (b:Nat) (vs:List Value) (t:TypeId):Prop:=w.heap[b]?=some (.cells vs.toArray t (0,0))
theorem Bh.lt {w:World} {b t:Nat} {vs:List Value} (h:Bh w b vs t):b<w.heap.size:=(Array.getElem?_eq_some_iff.1 h).1
theorem Bh.new_ (w:World) (vs:List Value) (t:TypeId):Bh (w.alloc (.cells vs.toArray t)) w.heap.size vs t:=heap_alloc_new w _
theorem Bh.below {w w':World} {b B t:Nat} {vs:List Value} (h:Bh w b vs t) (hb:Below B w w') (hB:b<B):Bh w' b vs t:=(hb.block b hB).trans h
theorem Bh.cell {w:World} {b t:Nat} {vs:List Value} (h:Bh w b vs t) (j:Nat):w.cell? ⟨b,j,none⟩=vs[j]?:=by
 rw [cell_of_row w b j vs.toArray t (0,0) h]
 simp
theorem Bh.free {w:World} {b t:Nat} {vs:List Value} (h:Bh w b vs t) (j:Nat):w.frozen? ⟨b,j,none⟩=false:=frozen_of_row w b j vs.toArray t h
theorem Bh.set_ {w:World} {b t:Nat} {vs:List Value} (h:Bh w b vs t) (j:Nat) (u:Value):Bh (w.setCell ⟨b,j,none⟩ u) b (vs.set j u) t:=by
 have:=heap_setCell_same w b j vs.toArray t u h
 simpa [Bh] using this
def sgn (neg:Bool) (n:Nat):Int:=if n=0 then 0 else if neg=true then -1 else 1
theorem Vd {c x s:Nat} (hc:c<2 ^ s) (hx:x<4294967296) (hs:s≤32):bits .or .u64 (c:Int) ((x*2 ^ s:Nat):Int)=((c+x*2 ^ s:Nat):Int):=by
 have h32:2 ^ s≤2 ^ 32:=Nat.pow_le_pow_right (by decide) hs
 have hp:x*2 ^ s≤4294967295*2 ^ 32:=Nat.mul_le_mul (by omega) h32
 rw [bits_or_u64_nat c (x*2 ^ s) (by omega) (by omega)]
 have h:=Nat.two_pow_add_eq_or_of_lt hc x
 rw [Nat.or_comm,Nat.mul_comm x,←h,Nat.add_comm]
theorem NV:(Tryz.prog.info? 126).map (fun i=>(i.zero,i.size,i.bytes))=some (some (.int .u32 0),1,4):=by kernel_rfl
theorem En (q:Nat):AO (List.replicate q 0)=0:=by
 induction q with
 | zero=>rfl
 | succ q ih=>rw [List.replicate_succ];simp [AO,ih]
theorem LM (q:Nat):Az (List.replicate q 0):=fun x hx=>by
 have:=(List.mem_replicate.1 hx).2
 omega
theorem Ve {cy x p:Nat} (hc:cy<p) (hx:x<4294967296):(cy+x*p) / 4294967296<p:=by
 have h:x*p≤4294967295*p:=Nat.mul_le_mul_right _ (by omega)
 omega
theorem Afu {cy x p r:Nat} (hp:p=2 ^ r) (hc:cy<p) (hx:x<4294967296) (hr:r≤32):bits .or .u64 (cy:Int) (IntKind.u64.wrap ((x:Int)*2 ^ r))=((cy+x*p:Nat):Int):=by
 subst hp
 have h32:2 ^ r≤2 ^ 32:=Nat.pow_le_pow_right (by decide) hr
 have hb:x*2 ^ r≤4294967295*2 ^ 32:=Nat.mul_le_mul (by omega) h32
 have e:IntKind.u64.wrap ((x:Int)*2 ^ r)=((x*2 ^ r:Nat):Int):=by
  have e1:(x:Int)*2 ^ r=((x*2 ^ r:Nat):Int):=by simp
  rw [e1]
  have:IntKind.u64.wrap ((x*2 ^ r:Nat):Int)=((x*2 ^ r:Nat):Int) % 18446744073709551616:=by simp [IntKind.wrap,IntKind.signed,IntKind.bits]
  rw [this]
  omega
 rw [e]
 exact Vd hc hx hr
theorem Vf {os a:List Nat} {q k cy x z c' p:Nat} (hol:os.length=q+k) (hx:a[k]?.getD 0=x) (hv:AO os+4294967296 ^ (q+k)*cy=AO (a.take k)*(4294967296 ^ q*p)) (hz:z+4294967296*c'=cy+x*p) :
  AO (os++[z])+4294967296 ^ (q+(k+1))*c'=AO (a.take (k+1))*(4294967296 ^ q*p):=by
 rw [Bn a,hx,Cc,hol,Nat.add_mul,←hv]
 have e1:AO [z]=z:=by simp [AO]
 rw [e1,show q+(k+1)=(q+k)+1 by omega,Nat.pow_succ 4294967296 (q+k),Nat.pow_add]
 have e2:4294967296 ^ q*4294967296 ^ k*z+4294967296 ^ q*4294967296 ^ k*(4294967296*c')=4294967296 ^ q*4294967296 ^ k*cy+4294967296 ^ q*4294967296 ^ k*(x*p):=by
  rw [←Nat.mul_add,hz,Nat.mul_add]
 have e3:4294967296 ^ k*x*(4294967296 ^ q*p)=4294967296 ^ q*4294967296 ^ k*(x*p):=by
  rw [Nat.mul_comm (4294967296 ^ q) (4294967296 ^ k),Nat.mul_assoc,Nat.mul_assoc]
  congr 1
  rw [←Nat.mul_assoc,←Nat.mul_assoc,Nat.mul_comm x]
 rw [e3,Nat.mul_assoc (4294967296 ^ q*4294967296 ^ k)]
 omega
theorem LO (n:Nat):2 ^ n=4294967296 ^ (n / 32)*2 ^ (n % 32):=by
 have h:n=32*(n / 32)+n % 32:=by omega
 have e:(4294967296:Nat)=2 ^ 32:=by decide
 rw [e,←Nat.pow_mul,←Nat.pow_add,←h]
def Afv (w:World) (a:List Nat) (q p:Nat) (v cv i:Value) (wr:World):Prop :=
 ∃ (k:Nat) (os:List Nat) (cy:Nat),k≤a.length∧i=.int .i64 (k:Int)∧cv=.int .u64 (cy:Int)∧Ds wr w.heap.size v os∧os.length=q+k∧Az os∧cy<p ∧
  AO os+4294967296 ^ (q+k)*cy=AO (a.take k)*(4294967296 ^ q*p)∧Below w.heap.size w wr
theorem LP {a:List Nat} (h:Az a) (i:Nat):AO a / 4294967296 ^ i=AO (a.drop i):=by
 by_cases hi:i≤a.length
 ·have e:=Cc (a.take i) (a.drop i)
  rw [List.take_append_drop,List.length_take,Nat.min_eq_left hi] at e
  have hl:=BV (ws:=a.take i) (fun x hx=>h x (List.mem_of_mem_take hx))
  rw [List.length_take,Nat.min_eq_left hi] at hl
  rw [e,Nat.add_mul_div_left _ _ (Nat.pow_pos (by decide)),Nat.div_eq_of_lt hl,Nat.zero_add]
 ·rw [List.drop_eq_nil_of_le (by omega)]
  have hl:=BV h
  refine Nat.div_eq_of_lt (Nat.lt_of_lt_of_le hl (Nat.pow_le_pow_right (by decide) (by omega)))
theorem Eh {a:List Nat} {i:Nat}:AO (a.drop i)=a[i]?.getD 0+4294967296*AO (a.drop (i+1)):=by
 by_cases hi:i<a.length
 ·rw [List.drop_eq_getElem_cons hi,List.getElem?_eq_getElem hi]
  rfl
 ·rw [List.drop_eq_nil_of_le (by omega),List.drop_eq_nil_of_le (by omega),List.getElem?_eq_none (by omega)]
  rfl
theorem AaH (n:Nat):2 ^ n=4294967296 ^ (n / 32)*2 ^ (n % 32):=LO n
theorem Ge {a:List Nat} (h:Az a) (i:Nat):AO a / 2 ^ i % 2=(a[i / 32]?.getD 0) / 2 ^ (i % 32) % 2:=by
 rw [AaH i,←Nat.div_div_eq_div_mul,LP h,Eh]
 generalize a[i / 32]?.getD 0=x
 generalize AO (a.drop (i / 32+1))=y
 have e:(4294967296:Nat)=2 ^ (i % 32)*(2*2 ^ (31 - i % 32)):=by
  rw [←Nat.pow_succ',←Nat.pow_add,show i % 32+(31 - i % 32).succ=32 by omega]
 rw [show 4294967296*y=2 ^ (i % 32)*(2*(2 ^ (31 - i % 32)*y)) by rw [←Nat.mul_assoc,←Nat.mul_assoc,Nat.mul_assoc (2 ^ (i % 32)),←e]]
 rw [Nat.add_mul_div_left _ _ (Nat.two_pow_pos _)]
 omega
def Lh (v i:Nat):Bool:=decide (v % 2 ^ i≠0)
theorem Vg (v:Nat):Lh v 0=false:=by simp [Lh,Nat.mod_one]
theorem Pv (v i:Nat):Lh v (i+1)=(Lh v i || v / 2 ^ i % 2 == 1):=by
 have e:v % 2 ^ (i+1)=v % 2 ^ i+2 ^ i*(v / 2 ^ i % 2):=by
  rw [Nat.pow_succ,Nat.mod_mul]
 have hp:=Nat.two_pow_pos i
 unfold Lh
 rw [e]
 rcases Nat.mod_two_eq_zero_or_one (v / 2 ^ i) with h|h
 ·rw [h,Nat.mul_zero,Nat.add_zero]
  simp
 ·rw [h,Nat.mul_one]
  have:v % 2 ^ i+2 ^ i≠0:=by omega
  simp [this]
theorem Ye {v i j:Nat} (h:v<2 ^ i) (hj:i≤j):Lh v j=Lh v i:=by
 unfold Lh
 rw [Nat.mod_eq_of_lt h,Nat.mod_eq_of_lt (Nat.lt_of_lt_of_le h (Nat.pow_le_pow_right (by decide) hj))]
theorem AaI {x y t r:Nat} (hr:r≤31):(x+4294967296*(y+4294967296*t)) / 2 ^ r % 4294967296=(x+y*4294967296) / 2 ^ r % 4294967296:=by
 have e:(4294967296:Nat)=2 ^ r*2 ^ (32 - r):=by rw [←Nat.pow_add,show r+(32 - r)=32 by omega]
 rw [show x+4294967296*(y+4294967296*t)=(x+y*4294967296)+2 ^ r*(4294967296*(2 ^ (32 - r)*t)) by
  have:4294967296*(4294967296*t)=2 ^ r*(4294967296*(2 ^ (32 - r)*t)):=by
   rw [←Nat.mul_assoc,←Nat.mul_assoc,←Nat.mul_assoc,Nat.mul_comm (2 ^ r) 4294967296,Nat.mul_assoc 4294967296 (2 ^ r),←e]
  omega]
 rw [Nat.add_mul_div_left _ _ (Nat.two_pow_pos _)]
 omega
theorem QP {a os:List Nat} {n k z:Nat} (h:Az a) (hol:os.length=k) (hv:AO os=AO a / 2 ^ n % 4294967296 ^ k)
  (hz:z=(a[n / 32+k]?.getD 0+a[n / 32+k+1]?.getD 0*4294967296) / 2 ^ (n % 32) % 4294967296) :
  AO (os++[z])=AO a / 2 ^ n % 4294967296 ^ (k+1):=by
 rw [Cc,hol,hv,Nat.pow_succ,Nat.mod_mul]
 congr 1
 have e1:AO [z]=z:=by simp [AO]
 have e2:AO a / 2 ^ n / 4294967296 ^ k=AO (a.drop (n / 32+k)) / 2 ^ (n % 32):=by
  rw [←LP h,Nat.pow_add,AaH n]
  simp only [Nat.div_div_eq_div_mul]
  congr 1
  rw [Nat.mul_assoc,Nat.mul_assoc,Nat.mul_comm (2 ^ _)]
 rw [e1,e2,Eh,Eh,AaI (by omega),hz]
theorem ZQ {a os:List Nat} {n k:Nat} (h:Az a) (hk:a.length≤n / 32+k) (hv:AO os=AO a / 2 ^ n % 4294967296 ^ k):AO os=AO a / 2 ^ n:=by
 rw [hv]
 refine Nat.mod_eq_of_lt ?_
 have hl:=BV h
 refine (Nat.div_lt_iff_lt_mul (Nat.two_pow_pos _)).2 (Nat.lt_of_lt_of_le hl ?_)
 rw [AaH n,←Nat.mul_assoc,←Nat.pow_add]
 refine Nat.le_trans (Nat.pow_le_pow_right (by decide) (show a.length≤k+n / 32 by omega)) (Nat.le_mul_of_pos_right _ (Nat.two_pow_pos _))
theorem QQ {x r:Nat} (hx:x<4294967296):bits .and .u32 ((x:Int) / 2 ^ r) 1=((x / 2 ^ r % 2:Nat):Int):=by
 have e:(x:Int) / 2 ^ r=((x / 2 ^ r:Nat):Int):=by simp
 have hl:x / 2 ^ r≤x:=Nat.div_le_self _ _
 rw [e]
 generalize x / 2 ^ r=y at hl
 have:=bits_mask .u32 32 (by decide) (fun n h0 h1=>by rw [IntKind.wrap_u32];omega) 1 (by decide) (y:Int) (by omega) (by omega)
 rw [show ((2:Int) ^ 1 - 1)=1 by decide,show ((2:Int) ^ 1)=2 by decide] at this
 rw [this]
 omega
theorem QR (y:Nat):(((y:Nat):Int) == 1)=(y == 1):=by
 by_cases h:y=1
 ·subst h;rfl
 ·have h2:(((y:Nat):Int) == 1)=false:=by rw [beq_eq_false_iff_ne];omega
  have h3:(y == 1)=false:=by rw [beq_eq_false_iff_ne];omega
  rw [h2,h3]
theorem ZR {a:List Nat} {k x:Nat} (h:Az a) (hx:x<4294967296) (hg:a[k / 32]?.getD 0=x):(bits .and .u32 ((x:Int) / 2 ^ (k % 32)) 1 == 1)=(AO a / 2 ^ k % 2 == 1):=by
 rw [QQ hx,Ge h,hg]
 exact QR _
theorem Afw {x y:Nat} (hx:x<4294967296) (hy:y<4294967296):bits .or .u64 (x:Int) ((y:Int)*4294967296)=((x+y*4294967296:Nat):Int):=by
 have:=Vd (c:=x) (x:=y) (s:=32) (by omega) hy (by omega)
 rw [←this]
 simp
def Adt (w:World) (a:List Nat) (n q:Nat) (v i:Value) (wr:World):Prop :=
 ∃ (k:Nat) (os:List Nat),q+k≤a.length∧i=.int .i64 ((q+k:Nat):Int)∧Ds wr w.heap.size v os∧os.length=k∧Az os∧AO os=AO a / 2 ^ n % 4294967296 ^ k∧Below w.heap.size w wr
def Afx (a:List Nat) (n:Nat) (w:World) (cv i:Value) (wr:World):Prop :=
 ∃ k:Nat,k≤n∧k≤32*a.length∧i=.int .i64 (k:Int)∧cv=.bool (Lh (AO a) k)∧w=wr
def nf (m:Int):Nat→Int × Nat
 | 0=>(m,0)
 | d+1=>if m % 2=0 then nf (m / 2) d else (m,d+1)
def sg (neg:Bool) (n:Nat):Int:=if neg=true then -(n:Int) else n
theorem QS (d:Nat):nf 0 d=(0,0):=by
 induction d with
 | zero=>rfl
 | succ d ih=>simp [nf,ih]
theorem AaJ (m:Int) (d:Nat):(nf m d).2≤d:=by
 induction d generalizing m with
 | zero=>exact Nat.le_refl _
 | succ d ih =>
  unfold nf
  split
  ·have:=ih (m / 2);omega
  ·exact Nat.le_refl _
theorem Vh (m:Int) (d:Nat):(nf m d).2≠0→(nf m d).1 % 2=1:=by
 induction d generalizing m with
 | zero=>simp [nf]
 | succ d ih =>
  unfold nf
  split
  ·exact ih _
  ·intro _
   simp
   omega
theorem Ep {m:Int} {d:Nat} (h:d≠0→m % 2=1):nf m d=(m,d):=by
 cases d with
 | zero=>rfl
 | succ d =>
  have:=h (by omega)
  simp [nf,this]
theorem Yf (m:Int) (d:Nat):(nf m d).1*2 ^ d=m*2 ^ (nf m d).2:=by
 induction d generalizing m with
 | zero=>rfl
 | succ d ih =>
  unfold nf
  split
  ·rename_i h
   rw [Int.pow_succ,←Int.mul_assoc,ih]
   have:m=m / 2*2:=by omega
   rw [Int.mul_assoc,Int.mul_comm (2 ^ _) 2,←Int.mul_assoc,←this]
  ·rfl
theorem Er (m:Int) (d:Nat):(nf m d).1.natAbs≤m.natAbs:=by
 induction d generalizing m with
 | zero=>exact Nat.le_refl _
 | succ d ih =>
  unfold nf
  split
  ·have:=ih (m / 2);omega
  ·exact Nat.le_refl _
theorem EP (neg:Bool) (n:Nat):(sg neg n).natAbs=n:=by
 unfold sg
 split <;> omega
theorem Se {neg:Bool} {n:Nat} (h:n≠0):decide (sg neg n<0)=neg:=by
 unfold sg
 cases neg <;> simp <;> omega
theorem NW (m:Int):sg (decide (m<0)) m.natAbs=m:=by
 unfold sg
 by_cases h:m<0
 ·simp [h];omega
 ·simp [h];omega
theorem Vi {neg:Bool} {n k den:Nat} (hk:k<den) (h:n / 2 ^ k % 2=0):nf (sg neg (n / 2 ^ k)) (den - k)=nf (sg neg (n / 2 ^ (k+1))) (den - (k+1)):=by
 rw [Nat.pow_succ,←Nat.div_div_eq_div_mul,show den - k=(den - (k+1))+1 by omega]
 generalize n / 2 ^ k=y at *
 show (if sg neg y % 2=0 then nf (sg neg y / 2) (den - (k+1)) else _)=_
 have e1:sg neg y % 2=0:=by unfold sg;split <;> omega
 have e2:sg neg y / 2=sg neg (y / 2):=by unfold sg;split <;> omega
 rw [if_pos e1,e2]
theorem AX {a b:Nat} (h:a≤b):(Ad a).length≤(Ad b).length:=by
 refine Bb (Nat.lt_of_le_of_lt h ?_)
 have:=BV (AV b)
 rwa [AE] at this
theorem Pw (y:Nat):(((y:Nat):Int) == 0)=(y == 0):=by
 by_cases h:y=0
 ·subst h;rfl
 ·have h2:(((y:Nat):Int) == 0)=false:=by rw [beq_eq_false_iff_ne];omega
  have h3:(y == 0)=false:=by rw [beq_eq_false_iff_ne];omega
  rw [h2,h3]
theorem Adu {a:List Nat} {k x:Nat} (h:Az a) (hx:x<4294967296) (hg:a[k / 32]?.getD 0=x):(bits .and .u32 ((x:Int) / 2 ^ (k % 32)) 1 == 0)=(AO a / 2 ^ k % 2 == 0):=by
 rw [QQ hx,Ge h,hg]
 exact Pw _
theorem Adv {n k:Nat} (h:n % 2 ^ k=0) (hz:n / 2 ^ k % 2=0):n % 2 ^ (k+1)=0:=by
 rw [Nat.pow_succ,Nat.mod_mul,h,hz]
 simp
def DyR (w:World) (lo hi:Nat) (v:Value) (x:Int) (d:Nat):Prop :=
 ∃ A c,v=.agg #[.bool (decide (x<0)),.slice A (Ad x.natAbs).length c,.int .i64 (d:Int)]∧(A=none→c=0)∧(Ad x.natAbs).length≤c∧Am w hi A (w32 (Ad x.natAbs)) ∧
  (∀ a,A=some a→lo≤a.block)∧d≤65536∧(d≠0→x % 2=1)
theorem DyR.zero_ (w:World) (lo hi:Nat):DyR w lo hi (.agg #[.bool false,.slice none 0 0,.int .i64 0]) 0 0:=by
 refine ⟨none,0,?_,fun _=>rfl,?_,?_,by simp,by omega,by simp⟩
 ·rw [show (0:Int).natAbs=0 by rfl,AP];rfl
 ·rw [show (0:Int).natAbs=0 by rfl,AP];exact Nat.le_refl _
 ·rw [show (0:Int).natAbs=0 by rfl,AP];exact Am.nil_
def Afy (w:World) (i:Value) (wr:World):Prop:=i=.int .i64 0∧w=wr
def Afz (n den:Nat) (neg:Bool) (w:World) (i:Value) (wr:World):Prop :=
 ∃ k:Nat,k≤den∧k≤32*(Ad n).length∧i=.int .i64 (k:Int)∧n % 2 ^ k=0∧nf (sg neg n) den=nf (sg neg (n / 2 ^ k)) (den - k)∧w=wr
theorem DyR.below {w w':World} {lo hi B d:Nat} {v:Value} {x:Int} (h:DyR w lo hi v x d) (hb:Below B w w') (hB:hi≤B):DyR w' lo hi v x d:=by
 obtain ⟨A,c,e,h1,h2,h3,h4,h5,h6⟩:=h
 exact ⟨A,c,e,h1,h2,h3.below hb hB,h4,h5,h6⟩
theorem DyR.more {w:World} {lo hi hi' d:Nat} {v:Value} {x:Int} (h:DyR w lo hi v x d) (hB:hi≤hi'):DyR w lo hi' v x d:=by
 obtain ⟨A,c,e,h1,h2,h3,h4,h5,h6⟩:=h
 exact ⟨A,c,e,h1,h2,h3.more hB,h4,h5,h6⟩
theorem DyR.low {w:World} {lo lo' hi d:Nat} {v:Value} {x:Int} (h:DyR w lo hi v x d) (hB:lo'≤lo):DyR w lo' hi v x d:=by
 obtain ⟨A,c,e,h1,h2,h3,h4,h5,h6⟩:=h
 exact ⟨A,c,e,h1,h2,h3,fun a ha=>Nat.le_trans hB (h4 a ha),h5,h6⟩
theorem Am.setD {w:World} {m:Nat} {A:Option Addr} {xs:List Value} (h:Am w m A xs) {b j:Nat} (u:Value) (hA:∀ a:Addr,A=some a→a.block≠b):Am (w.setCell ⟨b,j,none⟩ u) m A xs:=fun hx=>by
 obtain ⟨g,off,rfl,hbm,hbs,hc⟩:=h hx
 refine ⟨g,off,rfl,hbm,by simpa using hbs,fun i u hu=>?_⟩
 have hne:g≠b:=hA _ rfl
 rw [World.cell?_setCell_other _ _ _ _ (by first|(simp;omega)|simp_all)]
 exact hc i u hu
theorem DyR.set_ {w:World} {lo hi d b:Nat} {v:Value} {x:Int} (h:DyR w lo hi v x d) (hb:b<lo) (j:Nat) (u:Value):DyR (w.setCell ⟨b,j,none⟩ u) lo hi v x d:=by
 obtain ⟨A,c,e,h1,h2,h3,h4,h5,h6⟩:=h
 exact ⟨A,c,e,h1,h2,h3.setD u (fun a ha h0=>by have:=h4 a ha;omega),h4,h5,h6⟩
theorem DyR.form {w:World} {lo hi d:Nat} {v:Value} {x:Int} (h:DyR w lo hi v x d):∃ nb A L c,v=.agg #[.bool nb,.slice A L c,.int .i64 (d:Int)] ∧
  Hid (nb=decide (x<0)∧L=(Ad x.natAbs).length∧(A=none→c=0)∧L≤c∧Am w hi A (w32 (Ad x.natAbs))∧d≤65536∧(d≠0→x % 2=1)):=by
 obtain ⟨A,c,e,h1,h2,h3,h4,h5,h6⟩:=h
 exact ⟨_,A,_,c,e,Lib.hid ⟨rfl,rfl,h1,h2,h3,h5,h6⟩⟩
theorem AaK {x:Int} {d:Nat} (h5:d≤65536) (h6:d≠0→x % 2=1):Ads (decide (x<0)) x.natAbs d:=by
 refine ⟨fun h=>?_,h5,fun h=>by have:=h6 h;omega⟩
 have hx:x=0:=by omega
 subst hx
 refine ⟨by simp,?_⟩
 rcases Nat.eq_zero_or_pos d with h|h
 ·exact h
 ·have:=h6 (by omega)
  omega
theorem AfA {x:Int} {d:Nat} (h6:d≠0→x % 2=1):nf x d=(x,d):=Ep h6
def sgI (x:Int):Int:=if x=0 then 0 else if x<0 then -1 else 1
theorem Bh.other_ {w:World} {b t:Nat} {vs:List Value} (h:Bh w b vs t) {k:Nat} (hk:b≠k) (j:Nat) (u:Value):Bh (w.setCell ⟨k,j,none⟩ u) b vs t:=by
 unfold Bh
 rw [heap_setCell_other _ _ _ _ hk]
 exact h
theorem Bh.cells_ {w:World} {b t m:Nat} {vs:List Value} (h:Bh w b vs t) (hm:b<m):Am w m (some ⟨b,0,none⟩) vs:=fun _=>⟨b,0,rfl,hm,h.lt,fun j u hu=>by
 have:=h.cell j
 rw [Nat.zero_add,this]
 exact hu⟩
theorem NY {lo hi:Nat}:AO [lo,hi]=lo+4294967296*hi:=by simp [AO]
theorem AaL {lo hi:Nat} (h1:lo<4294967296) (h2:hi<4294967296):Az [lo,hi]:=by
 intro x hx
 simp at hx
 omega
def OwnD (w:World) (r:Nat):Prop:=∃ v0 v1 v2,Bh w r [v0,v1,v2] 43
structure SK (W:World) (m r:Nat) (w:World):Prop where
 is:Below m W w
 fits:m≤w.heap.size
 own:OwnD w r
theorem SK.refl {w:World} {m r:Nat} (h:m≤w.heap.size) (ho:OwnD w r):SK w m r w:=⟨Below.refl _ _,h,ho⟩
theorem SK.drew {W w:World} {m r:Nat} (h:SK W m r w):SK W m r w.drew:=⟨h.is.drew,h.fits,h.own⟩
theorem Bh.call {w w':World} {b t:Nat} {vs:List Value} (h:Bh w b vs t) (hb:Below w.heap.size w w'):Bh w' b vs t:=h.below hb h.lt
theorem SK.call {W w w':World} {m r:Nat} (h:SK W m r w) (hb:Below w.heap.size w w'):SK W m r w' :=
 ⟨h.is.trans (hb.mono h.fits),Nat.le_trans h.fits hb.size,let ⟨_,_,_,hr⟩:=h.own;⟨_,_,_,hr.call hb⟩⟩
theorem SK.set {W w:World} {m r:Nat} (h:SK W m r w) (hm:m≤r) (j:Nat) (u:Value):SK W m r (w.setCell ⟨r,j,none⟩ u):=by
 refine ⟨h.is.setCell hm u,by simpa using h.fits,?_⟩
 obtain ⟨v0,v1,v2,hr⟩:=h.own
 have h2:=hr.set_ j u
 rcases j with _|_|_|j
 ·exact ⟨_,_,_,h2⟩
 ·exact ⟨_,_,_,h2⟩
 ·exact ⟨_,_,_,h2⟩
 ·exact ⟨_,_,_,h2⟩
theorem SK.lt {W w:World} {m r:Nat} (h:SK W m r w):r<w.heap.size:=let ⟨_,_,_,hr⟩:=h.own;hr.lt
theorem SK.all {W w:World} {m r:Nat} (h:SK W m r w):(∀ b o,b<m→w.cell? ⟨b,o,none⟩=W.cell? ⟨b,o,none⟩)∧SK W m r w :=
 ⟨fun _ _ hb=>h.is.cell (p:=⟨_,_,none⟩) hb,h⟩
theorem SK.cells {W w:World} {m r:Nat} (h:SK W m r w):∃ v0 v1 v2,Bh w r [v0,v1,v2] 43∧w.cell? ⟨r,0,none⟩=some v0∧w.cell? ⟨r,1,none⟩=some v1∧w.cell? ⟨r,2,none⟩=some v2∧(∀ o,w.frozen? ⟨r,o,none⟩=false):=by
 obtain ⟨v0,v1,v2,hr⟩:=h.own
 exact ⟨v0,v1,v2,hr,hr.cell 0,hr.cell 1,hr.cell 2,hr.free⟩
theorem DA (a b:Nat):(Ad (a+b)).length≤max (Ad a).length (Ad b).length+1:=by
 refine Bb ?_
 have h1:=BV (AV a)
 have h2:=BV (AV b)
 rw [AE] at h1 h2
 have e1:4294967296 ^ (Ad a).length≤4294967296 ^ max (Ad a).length (Ad b).length:=Nat.pow_le_pow_right (by decide) (by omega)
 have e2:4294967296 ^ (Ad b).length≤4294967296 ^ max (Ad a).length (Ad b).length:=Nat.pow_le_pow_right (by decide) (by omega)
 rw [Nat.pow_succ]
 have h0:0<4294967296 ^ max (Ad a).length (Ad b).length:=Nat.pow_pos (by decide)
 omega
theorem Bz (a n:Nat):(Ad (a*2 ^ n)).length≤(Ad a).length+n / 32+1:=by
 refine Bb ?_
 have h1:=BV (AV a)
 rw [AE] at h1
 have e:2 ^ n≤4294967296 ^ (n / 32+1):=by
  rw [show (4294967296:Nat)=2 ^ 32 by decide,←Nat.pow_mul]
  exact Nat.pow_le_pow_right (by decide) (by omega)
 rw [Nat.add_assoc,Nat.pow_add]
 exact Nat.lt_of_lt_of_le (Nat.mul_lt_mul_of_pos_right h1 (Nat.two_pow_pos _)) (Nat.mul_le_mul_left _ e)
def WdR (w:World) (hi:Nat) (v:Value) (n:Nat):Prop:=∃ A c,v=.slice A (Ad n).length c∧(A=none→c=0)∧(Ad n).length≤c∧Am w hi A (w32 (Ad n))
theorem WdR.below {w w':World} {hi B n:Nat} {v:Value} (h:WdR w hi v n) (hb:Below B w w') (hB:hi≤B):WdR w' hi v n:=by
 obtain ⟨A,c,e,h1,h2,h3⟩:=h
 exact ⟨A,c,e,h1,h2,h3.below hb hB⟩
theorem WdR.more {w:World} {hi hi' n:Nat} {v:Value} (h:WdR w hi v n) (hB:hi≤hi'):WdR w hi' v n:=by
 obtain ⟨A,c,e,h1,h2,h3⟩:=h
 exact ⟨A,c,e,h1,h2,h3.more hB⟩
theorem WdR.form {w:World} {hi n:Nat} {v:Value} (h:WdR w hi v n):∃ A L c,v=.slice A L c:=by
 obtain ⟨A,c,e,_⟩:=h
 exact ⟨A,_,c,e⟩
theorem DyR.words {w:World} {lo hi d:Nat} {nb:Bool} {A:Option Addr} {L c:Nat} {x:Int} (h:DyR w lo hi (.agg #[.bool nb,.slice A L c,.int .i64 (d:Int)]) x d):WdR w hi (.slice A L c) x.natAbs:=by
 obtain ⟨A',c',e,h1,h2,h3,_⟩:=h
 cases e
 exact ⟨_,_,rfl,h1,h2,h3⟩
theorem QT (a b:Nat):Vc (Ad a) (Ad b)=decide (a<b):=by
 unfold Vc
 by_cases h:(Ad a).length=(Ad b).length
 ·rw [if_pos h,AE,AE]
 ·rw [if_neg h]
  by_cases h2:a<b
  ·have:=AX (Nat.le_of_lt h2)
   rw [decide_eq_true h2,decide_eq_true (by omega)]
  ·have:=AX (Nat.le_of_not_lt h2)
   rw [decide_eq_false h2,decide_eq_false (by omega)]
def Cw (x:Int) (dx:Nat) (y:Int) (dy:Nat):Int × Nat:=nf (x*2 ^ (max dx dy - dx)+y*2 ^ (max dx dy - dy)) (max dx dy)
theorem Sf (x:Int) (k:Nat):sg (decide (x<0)) (x.natAbs*2 ^ k)=x*2 ^ k:=by
 have e:((x.natAbs*2 ^ k:Nat):Int)=(x.natAbs:Int)*2 ^ k:=by simp
 unfold sg
 by_cases h:x<0
 ·have:(x.natAbs:Int) = -x:=by omega
  rw [if_pos (by simpa using h),e,this,Int.neg_mul,Int.neg_neg]
 ·have:(x.natAbs:Int)=x:=by omega
  rw [if_neg (by simpa using h),e,this]
theorem AaM (nb:Bool) (a b:Nat):sg nb (a+b)=sg nb a+sg nb b:=by
 unfold sg
 split <;> omega
theorem AaN {nb nb2:Bool} {a b:Nat} (hn:nb≠nb2) (h:a<b):sg nb2 (b - a)=sg nb a+sg nb2 b:=by
 unfold sg
 cases nb <;> cases nb2 <;> simp at hn ⊢ <;> omega
theorem AaO {nb nb2:Bool} {a b:Nat} (hn:nb≠nb2) (h:b≤a):sg nb (a - b)=sg nb a+sg nb2 b:=by
 unfold sg
 cases nb <;> cases nb2 <;> simp at hn ⊢ <;> omega
theorem GK (x:Int) (k:Nat):(x*2 ^ k).natAbs=x.natAbs*2 ^ k:=by
 rw [Int.natAbs_mul,Int.natAbs_pow]
 rfl
theorem Vj {x y:Int} {dx dy:Nat} (l1:(Ad x.natAbs).length≤50000) (l2:(Ad y.natAbs).length≤50000) (h1:dx≤65536) (h2:dy≤65536):(Ad (Cw x dx y dy).1.natAbs).length≤100000:=by
 unfold Cw
 refine Nat.le_trans (AX (Er _ _)) ?_
 refine Nat.le_trans (AX (Int.natAbs_add_le _ _)) ?_
 rw [GK,GK]
 have e1:=Bz x.natAbs (max dx dy - dx)
 have e2:=Bz y.natAbs (max dx dy - dy)
 have e3:=DA (x.natAbs*2 ^ (max dx dy - dx)) (y.natAbs*2 ^ (max dx dy - dy))
 omega
theorem Gf {x:Int} {dx:Nat} (h:dx≠0→x % 2=1):Cw x dx 0 0=(x,dx):=by
 unfold Cw
 rw [show max dx 0=dx by omega]
 simp
 exact Ep h
def Cl (x:Int) (dx:Nat) (y:Int) (dy:Nat):Int:=sgI (Cw x dx (-y) dy).1
def EQ (x:Int) (dx:Nat) (y:Int) (dy:Nat):Int × Nat:=if 0<Cl x dx y dy then (y,dy) else (x,dx)
def EH (x:Int) (dx:Nat) (y:Int) (dy:Nat):Int × Nat:=if Cl x dx y dy<0 then (y,dy) else (x,dx)
theorem DyR.bound {w:World} {lo hi d:Nat} {v:Value} {x:Int} (h:DyR w lo hi v x d):d≤65536∧(d≠0→x % 2=1):=by
 obtain ⟨A,c,e,h1,h2,h3,h4,h5,h6⟩:=h
 exact ⟨h5,h6⟩
def Ai (x:Int) (d:Nat) (n:Int):Int × Nat :=
 if max (-65536) (min n 65536)<0 then nf x (d+(-(max (-65536) (min n 65536))).toNat) else nf (x*2 ^ (max (-65536) (min n 65536)).toNat) d
def BO (x:Int) (d den:Nat):Int × Nat:=if d≤den then (x,d) else nf (x / 2 ^ (d - den)) den
theorem ZS {x:Int} {k:Nat} (h:0≤x):sg false (x.natAbs / 2 ^ k)=x / 2 ^ k:=by
 obtain ⟨a,rfl⟩:=Int.eq_ofNat_of_zero_le h
 show ((a / 2 ^ k:Nat):Int)=(a:Int) / 2 ^ k
 simp
theorem Nc {x:Int} {k:Nat} (h:x<0) (hc:Lh x.natAbs k=true):sg true (x.natAbs / 2 ^ k+1)=x / 2 ^ k:=by
 obtain ⟨a,ha⟩:∃ a:Nat,x = -(a:Int):=⟨x.natAbs,by omega⟩
 subst ha
 rw [show (-(a:Int)).natAbs=a by omega] at hc ⊢
 unfold Lh at hc
 simp only [decide_eq_true_eq] at hc
 have hp:=Nat.two_pow_pos k
 have e:=Nat.div_add_mod a (2 ^ k)
 have hm:=Nat.mod_lt a hp
 show -((a / 2 ^ k+1:Nat):Int) = -(a:Int) / 2 ^ k
 have ec:((2 ^ k:Nat):Int)=2 ^ k:=by simp
 rw [←ec]
 generalize 2 ^ k=P at *
 have h1 : -(a:Int)=(P:Int)*(-((a / P+1:Nat):Int))+((P - a % P:Nat):Int):=by
  have e3:((P - a % P:Nat):Int)=(P:Int) - ((a % P:Nat):Int):=by omega
  have e4:(a:Int)=(P:Int)*((a / P:Nat):Int)+((a % P:Nat):Int):=by exact_mod_cast e.symm
  rw [e3]
  generalize a / P=u at *
  generalize a % P=v at *
  rw [e4,Int.mul_neg,show ((u+1:Nat):Int)=(u:Int)+1 by omega,Int.mul_add]
  omega
 rw [h1,Int.mul_add_ediv_left _ _ (by omega)]
 rw [Int.ediv_eq_zero_of_lt (by omega) (by omega)]
 omega
theorem Adw {x:Int} {k:Nat} (h:x<0) (hc:Lh x.natAbs k=false):sg true (x.natAbs / 2 ^ k)=x / 2 ^ k:=by
 obtain ⟨a,ha⟩:∃ a:Nat,x = -(a:Int):=⟨x.natAbs,by omega⟩
 subst ha
 rw [show (-(a:Int)).natAbs=a by omega] at hc ⊢
 unfold Lh at hc
 simp only [decide_eq_false_iff_not,Decidable.not_not] at hc
 have e:=Nat.div_add_mod a (2 ^ k)
 rw [hc,Nat.add_zero] at e
 show -((a / 2 ^ k:Nat):Int) = -(a:Int) / 2 ^ k
 have ec:((2 ^ k:Nat):Int)=2 ^ k:=by simp
 rw [←ec]
 have hp:=Nat.two_pow_pos k
 generalize 2 ^ k=P at *
 have e4 : -(a:Int)=(P:Int)*(-((a / P:Nat):Int)):=by
  have:(a:Int)=(P:Int)*((a / P:Nat):Int):=by exact_mod_cast e.symm
  rw [Int.mul_neg,←this]
 rw [e4,Int.mul_ediv_cancel_left _ (by omega)]
def itRel (a:List Nat) (w:World) (mv i:Value) (wr:World):Prop :=
 ∃ k mm:Nat,k≤a.length∧i=.int .i64 ((k:Int) - 1)∧mv=.int .u64 (mm:Int)∧mm=AO (a.drop k)∧w=wr
theorem Adx {mm x:Nat} (hm:mm<4294967296) (hx:x<4294967296):bits .or .u64 ((mm:Int)*4294967296) (x:Int)=((x+4294967296*mm:Nat):Int):=by
 have h:=Vd (c:=x) (x:=mm) (s:=32) (by omega) hm (by omega)
 rw [show x+4294967296*mm=x+mm*2 ^ 32 by omega,←h]
 have e:((mm:Int)*4294967296)=((mm*2 ^ 32:Nat):Int):=by simp
 rw [e,bits_or_u64_nat _ _ (by omega) (by omega),bits_or_u64_nat _ _ (by omega) (by omega),Nat.or_comm]
end Go.Proofs.YtmdfjbpggbhgnaaGreatDoor
namespace Go.Proofs.YtmdfjbpggbhgnaaGreatDoor
open Go.RowKit
theorem ER (A:Option Addr) (ws:List Nat) (c m:Nat) (w:World) (h:Am w m A (w32 ws)) (hc:ws.length≤c) (hl:ws.length≤1000000) :
  Calls Tryz.prog 161 #[.slice A ws.length c] w fun e w'=>e=.returned (.slice A (GI ws).length c)∧w=w':=by
 have H:=Lib.hid h
 clear h
 go_enter Tryz.func161,Tryz.ntmps161
 go_wp2_with fail
 go_loopw [3] (fun i wr=>Adp w ws i wr) (fun i _=>(intOf i).toNat)
 case atStart=>exact ⟨ws.length,Nat.le_refl _,rfl,rfl,rfl⟩
 case round =>
  obtain ⟨k,hk,rfl,ht,rfl⟩:=hrel
  have HT:=Lib.hid ht
  clear ht
  by_cases h0:k=0
  ·subst h0
   go_wp2_with fail
   go_ret
   refine ⟨?_,rfl⟩
   rw [Ci,←HT.out]
   rfl
  ·obtain ⟨j,rfl⟩:=Nat.exists_eq_succ_of_ne_zero h0
   obtain ⟨b,off,z,rfl,hbm,hbs,hx,hcc⟩:=H.out.w32_ (k:=j) (by omega)
   have HX:=Lib.hid hx
   clear hx
   by_cases hz:z=0
   ·subst hz
    go_wp2_with fail
    have e1:Dr ws j=Dr ws ws.length:=by
     rw [←HT.out]
     show Dr ws j=if ws[j]?.getD 0=0 then Dr ws j else j+1
     rw [if_pos (by rw [HX.out];rfl)]
    exact ⟨⟨j,by omega,by go_num,e1,rfl⟩,by simp [intOf];try omega⟩
   ·have hz':((z:Int) == 0)=false:=by simp;omega
    go_wp2_with fail
    go_ret
    refine ⟨?_,rfl⟩
    have e1:j+1=Dr ws ws.length:=by
     rw [←HT.out]
     show j+1=if ws[j]?.getD 0=0 then Dr ws j else j+1
     rw [if_neg (by rw [HX.out];exact hz)]
    rw [Ci,←e1]
    rfl
theorem TL (neg:Bool) (A:Option Addr) (n den c m:Nat) (w:World) (hm:m≤w.heap.size) (h:Am w m A (w32 (Ad n))) (hl:(Ad n).length≤100000) (ok:Ads neg n den) :
  Calls Tryz.prog 123 #[.agg #[.bool neg,.slice A (Ad n).length c,.int .i64 (den:Int)]] w fun e w'=>e=.returned (.bool true)∧Below w.heap.size w w':=by
 by_cases h0:n=0
 ·obtain ⟨rfl,rfl⟩:=ok.zero h0
  subst h0
  rw [AP]
  clear h hl ok
  go_enter Tryz.func123,Tryz.ntmps123
  go_wp2_with fail
  go_ret
  exact ⟨rfl,(Below.refl _ w).alloc (Nat.le_refl _) _⟩
 ·have hp:=Co h0
  have ht:=LL h0
  obtain ⟨b,off,z,rfl,q1,q2,hz,g1⟩:=h.w32_ (k:=(Ad n).length - 1) (by omega)
  have hz0:((z:Int) != 0)=true:=by
   rw [hz] at ht
   simp at ht
   simp
   omega
  have g0:w.cell? ⟨b,off,none⟩=some (.int .u32 ((n % 4294967296:Nat):Int)):=by
   obtain ⟨b',off',z',hA,_,_,hz',g'⟩:=h.w32_ (k:=0) hp
   cases hA
   rw [Nb h0] at hz'
   cases hz'
   exact g'
  obtain ⟨L,hL⟩:∃ L,L=(Ad n).length - 1:=⟨_,rfl⟩
  obtain ⟨x,hx⟩:∃ x:Nat,x=n % 4294967296:=⟨_,rfl⟩
  have hlen:(Ad n).length=L+1:=by omega
  have hd:=ok.fine
  have ho:=ok.odd
  rw [←hx] at g0
  rw [←hL] at g1
  rw [hlen]
  have hl':L≤100000:=by omega
  have e0:((L:Int)+1 == 0)=false:=by simp;omega
  have hodd:den≠0→(x:Int) % 2=1:=fun hne=>by have:=ho hne;omega
  clear h hl ok ho ht hz hL hx hlen hp h0
  by_cases hden:den=0
  ·subst hden
   clear hodd hd
   go_enter Tryz.func123,Tryz.ntmps123
   go_wp2_with fail
   go_ret
   exact ⟨rfl,(Below.refl _ w).alloc (Nat.le_refl _) _⟩
  ·have ho:=hodd hden
   have d0:((den:Int) == 0)=false:=by simp;omega
   have d1:decide ((den:Int)≤65536)=true:=decide_eq_true (by omega)
   clear hodd hden
   go_enter Tryz.func123,Tryz.ntmps123
   go_wp2_with fail
   go_ret
   exact ⟨rfl,(Below.refl _ w).alloc (Nat.le_refl _) _⟩
theorem Es {v:Value} {x:Int} {d lo m:Nat} {w:World} (D:DyR w lo m v x d) (hm:m≤w.heap.size) (hl:(Ad x.natAbs).length≤100000) :
  Calls Tryz.prog 69 #[v] w fun e w'=>∃ nb A L c,v=.agg #[.bool nb,.slice A L c,.int .i64 (d:Int)]∧e=.returned (.tuple #[.bool nb,.slice A L c,.int .i64 (d:Int)])∧Below w.heap.size w w':=by
 have hok:=AaK D.bound.1 D.bound.2
 have D0:=Lib.hid D
 obtain ⟨A,c,rfl,h1,h2,h3,h4,h5,h6⟩:=D
 have H3:=Lib.hid h3
 have HOK:=Lib.hid hok
 have HL:=Lib.hid hl
 clear h3 hok hl h6 h4
 obtain ⟨nb,hnb⟩:∃ nb,nb=decide (x<0):=⟨_,rfl⟩
 rw [←hnb] at HOK D0 ⊢
 clear hnb
 have b0:Below w.heap.size w (w.alloc (.cells #[.bool nb,.slice A (Ad x.natAbs).length c,.int .i64 (d:Int)] 43)):=Aq (Below.refl _ _) _
 have r0:=Bh.new_ w [.bool nb,.slice A (Ad x.natAbs).length c,.int .i64 (d:Int)] 43
 go_enter Tryz.func69,Tryz.ntmps69
 go_wp2_with fail
 go_at_call 123
 refine (TL nb A x.natAbs d c m _ (by simp;omega) (H3.out.below b0 hm) HL.out HOK.out).mono ?_
 rintro e w1 ⟨rfl,hb⟩
 have s0:=r0.below hb (by simp)
 have b1:=b0.trans (hb.mono (by simp))
 have k0:w1.cell? ⟨w.heap.size,0,none⟩=some (.bool nb):=s0.cell 0
 have k1:w1.cell? ⟨w.heap.size,1,none⟩=some (.slice A (Ad x.natAbs).length c):=s0.cell 1
 have k2:w1.cell? ⟨w.heap.size,2,none⟩=some (.int .i64 (d:Int)):=s0.cell 2
 clear hb r0 b0 s0
 go_wp2_with fail
 go_quiet (fail)
 go_wp2_with fail
 refine bodyPost_ret (v:=.tuple #[.bool nb,.slice A (Ad x.natAbs).length c,.int .i64 (d:Int)]) (by simp [results,Tryz.results69,go_sem]) rfl ⟨nb,A,_,c,rfl,rfl,below_drewN b1 _⟩
theorem Vk {v:Value} {x:Int} {d lo m:Nat} {w:World} (D:DyR w lo m v x d) (hm:m≤w.heap.size) (hl:(Ad x.natAbs).length≤100000) :
  Calls Tryz.prog 55 #[v] w fun e w'=>e=.returned (.int .i64 (sgI x))∧Below w.heap.size w w':=by
 obtain ⟨nb,A,L,c,rfl,HD⟩:=D.form
 have D0:=Lib.hid D
 have b0:Below w.heap.size w (w.alloc (.cells #[.bool nb,.slice A L c,.int .i64 (d:Int)] 43)):=Aq (Below.refl _ _) _
 clear D
 by_cases hx:x=0
 ·have hL:(L:Int)=0:=by have:=HD.out.2.1;rw [hx] at this;simp [AP] at this;omega
  have hLb:((L:Int) == 0)=true:=by rw [hL];rfl
  have HV:=Lib.hid (show sgI x=0 by unfold sgI;rw [if_pos hx])
  have HL:=Lib.hid hL
  clear hL hx
  go_enter Tryz.func55,Tryz.ntmps55
  go_wp2_with fail
  go_at_call 69
  refine (Es (D0.out.below b0 hm) (by simp;omega) hl).mono ?_
  rintro e w1 ⟨nb',A',L',c',he,rfl,hb⟩
  cases he
  go_wp2_with fail
  go_ret
  exact ⟨by rw [HV.out];rfl,b0.trans (hb.mono (by simp))⟩
 ·have hL:(L:Int)≠0:=by have:=HD.out.2.1;have h2:=Co (n:=x.natAbs) (by omega);omega
  have hLb:((L:Int) == 0)=false:=by rw [beq_eq_false_iff_ne];exact hL
  have hnb:=HD.out.1
  cases nb with
  | true =>
   have hx2:x<0:=by simpa using hnb.symm
   have HV:=Lib.hid (show sgI x = -1 by unfold sgI;rw [if_neg hx,if_pos hx2])
   clear hL hx hnb hx2
   go_enter Tryz.func55,Tryz.ntmps55
   go_wp2_with fail
   go_at_call 69
   refine (Es (D0.out.below b0 hm) (by simp;omega) hl).mono ?_
   rintro e w1 ⟨nb',A',L',c',he,rfl,hb⟩
   cases he
   go_wp2_with fail
   go_ret
   exact ⟨by rw [HV.out];rfl,b0.trans (hb.mono (by simp))⟩
  | false =>
   have hx2:¬ x<0:=by simpa using hnb.symm
   have HV:=Lib.hid (show sgI x=1 by unfold sgI;rw [if_neg hx,if_neg hx2])
   clear hL hx hnb hx2
   go_enter Tryz.func55,Tryz.ntmps55
   go_wp2_with fail
   go_at_call 69
   refine (Es (D0.out.below b0 hm) (by simp;omega) hl).mono ?_
   rintro e w1 ⟨nb',A',L',c',he,rfl,hb⟩
   cases he
   go_wp2_with fail
   go_ret
   exact ⟨by rw [HV.out];rfl,b0.trans (hb.mono (by simp))⟩
end Go.Proofs.YtmdfjbpggbhgnaaGreatDoor
namespace Go.Proofs.YtmdfjbpggbhgnaaGreatDoor
open Go.RowKit
def TM:List Int:=[0,1,28,2,29,14,24,3,30,22,20,15,25,17,4,8,31,27,13,23,21,19,16,7,26,12,18,6,11,5,10,9]
def Ax (w:World):Prop:=0<w.heap.size∧∀ j z,TM[j]?=some z→w.cell? ⟨0,j,none⟩=some (.int .u8 z)
theorem Ax.below {w w':World} {B:Nat} (h:Ax w) (hb:Below B w w') (hB:0<B):Ax w' :=
 ⟨Nat.lt_of_lt_of_le h.1 hb.size,fun j z hz=>(hb.cell (p:=⟨0,j,none⟩) hB).trans (h.2 j z hz)⟩
theorem Ax.call {w w':World} (h:Ax w) (hb:Below w.heap.size w w'):Ax w':=h.below hb h.1
theorem Ady:∀ k:Nat,k<32→TM[(2 ^ k*125613361 % 4294967296) / 134217728]?=some (k:Int):=by decide
theorem Vl:∀ (n:Nat) {x:Nat},0<x→x<2 ^ n→∃ k,k<n∧x % 2 ^ k=0∧x / 2 ^ k % 2=1
 | 0,x,h,h2=>by simp at h2;omega
 | n+1,x,h,h2=>by
  by_cases hx:x % 2=1
  ·exact ⟨0,by omega,Nat.mod_one _,by simpa using hx⟩
  ·obtain ⟨k,hk,h3,h4⟩:=Vl n (x:=x / 2) (by omega) (by rw [Nat.pow_succ] at h2;omega)
   refine ⟨k+1,by omega,?_,?_⟩
   ·rw [Nat.pow_succ',Nat.mod_mul]
    omega
   ·rw [Nat.pow_succ',←Nat.div_div_eq_div_mul]
    exact h4
theorem AaP {n k x:Nat} (hk:k<n) (hx:x<2 ^ n) (h1:x % 2 ^ k=0) (h2:x / 2 ^ k % 2=1):x &&& (2 ^ n - x)=2 ^ k:=by
 have hp:=Nat.two_pow_pos k
 have e0:=Nat.div_add_mod x (2 ^ k)
 have hx0:0<x:=by
  rcases Nat.eq_zero_or_pos x with h|h
  ·rw [h] at h2;simp at h2
  ·exact h
 have e:2 ^ n - x=2 ^ n - ((x - 1)+1):=by omega
 rw [e]
 apply Nat.eq_of_testBit_eq
 intro i
 rw [Nat.testBit_and,Nat.testBit_two_pow_sub_succ (by omega),Nat.testBit_two_pow]
 have hdiv:∀ y,y.testBit i=decide (y / 2 ^ i % 2=1):=fun y=>by rw [Nat.testBit_eq_decide_div_mod_eq]
 rw [hdiv,hdiv]
 rcases Nat.lt_trichotomy i k with hik|hik|hik
 ·have hz:x / 2 ^ i % 2=0:=by
   have es:2 ^ k=2 ^ i*(2*2 ^ (k - i - 1)):=by rw [←Nat.pow_succ',←Nat.pow_add];congr 1;omega
   have:x=2 ^ i*(2*(2 ^ (k - i - 1)*(x / 2 ^ k))):=by
    rw [h1,Nat.add_zero] at e0
    rw [←Nat.mul_assoc 2,←Nat.mul_assoc,←es]
    exact e0.symm
   rw [this,Nat.mul_div_cancel_left _ (Nat.two_pow_pos i)]
   omega
  rw [decide_eq_false (show ¬ x / 2 ^ i % 2=1 by omega),decide_eq_false (show ¬ k=i by omega)]
  rfl
 ·subst hik
  have hq:(x - 1) / 2 ^ i % 2=0:=by
   obtain ⟨q,hq1⟩:∃ q,x / 2 ^ i=q+1:=Nat.exists_eq_succ_of_ne_zero (fun h=>by rw [h] at h2;simp at h2)
   rw [h1,Nat.add_zero,hq1,Nat.mul_add,Nat.mul_one] at e0
   have hxq:x - 1=(2 ^ i - 1)+2 ^ i*q:=by
    generalize 2 ^ i*q=r at *
    omega
   rw [hxq,Nat.add_mul_div_left _ _ hp,Nat.div_eq_of_lt (show 2 ^ i - 1<2 ^ i by omega),Nat.zero_add]
   omega
  rw [decide_eq_true h2,decide_eq_false (show ¬ (x - 1) / 2 ^ i % 2=1 by omega),decide_eq_true hk]
  simp
 ·have hq:(x - 1) / 2 ^ i=x / 2 ^ i:=by
   have hm:0<x % 2 ^ i:=by
    rcases Nat.eq_zero_or_pos (x % 2 ^ i) with h|h
    ·exfalso
     have es:2 ^ i=2 ^ k*(2*2 ^ (i - k - 1)):=by rw [←Nat.pow_succ',←Nat.pow_add];congr 1;omega
     have e1:=Nat.div_add_mod x (2 ^ i)
     rw [h,Nat.add_zero,es] at e1
     rw [←e1,Nat.mul_assoc,Nat.mul_div_cancel_left _ hp,Nat.mul_assoc] at h2
     omega
    ·exact h
   have e1:=Nat.div_add_mod x (2 ^ i)
   have hlt:=Nat.mod_lt x (Nat.two_pow_pos i)
   have hxq:x - 1=(x % 2 ^ i - 1)+2 ^ i*(x / 2 ^ i):=by omega
   rw [hxq,Nat.add_mul_div_left _ _ (Nat.two_pow_pos i),Nat.div_eq_of_lt (by omega),Nat.zero_add]
  rw [hq,decide_eq_false (show ¬ k=i by omega)]
  by_cases hb:x / 2 ^ i % 2=1
  ·rw [decide_eq_true hb];simp
  ·rw [decide_eq_false hb];rfl
theorem IW (a b:Nat) (ha:a<4294967296) (hb:b<4294967296):bits .and .u32 (a:Int) (b:Int)=((a &&& b:Nat):Int) :=
 (bits_nat .u32 32 (by decide) (fun n h0 h1=>by rw [IntKind.wrap_u32];omega) a b (by omega) (by omega)).1
theorem Adz (x k:Nat) (w:World) (hx:x<4294967296) (hk:k<32) (h1:x % 2 ^ k=0) (h2:x / 2 ^ k % 2=1) (ht:Ax w) :
  Calls Tryz.prog 231 #[.int .u32 (x:Int)] w fun e w'=>e=.returned (.int .i64 (k:Int))∧w=w':=by
 have hx0:x≠0:=fun h=>by rw [h] at h2;simp at h2
 have hxb:((x:Int) == 0)=false:=by rw [beq_eq_false_iff_ne];omega
 have ha:=AaP (n:=32) hk (by omega) h1 h2
 obtain ⟨p,hp⟩:∃ p,p=2 ^ k:=⟨_,rfl⟩
 have hneg : -(x:Int) % 4294967296=((4294967296 - x:Nat):Int):=by omega
 have hand:bits .and .u32 (x:Int) (-(x:Int) % 4294967296)=(p:Int):=by
  rw [hneg,IW x _ hx (by omega),hp]
  exact congrArg _ ha
 obtain ⟨j,hj⟩:∃ j,j=(2 ^ k*125613361 % 4294967296) / 134217728:=⟨_,rfl⟩
 have hjj:(p:Int)*125613361 % 4294967296 / 134217728=(j:Int):=by rw [hj,←hp];omega
 have hj0:j<32:=by rw [hj];omega
 have hj32:(j:Int)<32:=by omega
 have hc:=ht.2 j k (by rw [hj];exact Ady k hk)
 have h0:=ht.1
 have hk32:(k:Int)<256:=by omega
 clear h1 h2 ht ha hp hneg hj hk
 go_enter Tryz.func231,Tryz.ntmps231
 go_wp2_with fail
 go_ret
 exact ⟨rfl,rfl⟩
end Go.Proofs.YtmdfjbpggbhgnaaGreatDoor
namespace Go.Proofs.YtmdfjbpggbhgnaaGreatDoor
open Go.RowKit
def AdA (n z:Nat):Prop:=n % 2 ^ z=0∧n / 2 ^ z % 2=1
theorem ZT (k:Nat):2 ^ (32*k)=4294967296 ^ k:=by rw [Nat.pow_mul]
theorem AdB {a:List Nat} {k t x:Nat} (h:Az a) (h0:AO (a.take k)=0) (hx:a[k]?.getD 0=x) (ht:t<32) (h1:x % 2 ^ t=0) (h2:x / 2 ^ t % 2=1):AdA (AO a) (32*k+t):=by
 refine ⟨?_,?_⟩
 ·rw [Nat.pow_add,Nat.mod_mul,ZT,LP h]
  have e1:AO a % 4294967296 ^ k=0:=by
   have e:=Cc (a.take k) (a.drop k)
   rw [List.take_append_drop,h0,Nat.zero_add] at e
   by_cases hk:k≤a.length
   ·rw [List.length_take,Nat.min_eq_left hk] at e
    rw [e]
    exact Nat.mul_mod_right _ _
   ·rw [List.drop_eq_nil_of_le (by omega)] at e
    rw [e]
    simp [AO]
  rw [e1,Eh,hx]
  have es:(4294967296:Nat)=2 ^ t*2 ^ (32 - t):=by rw [←Nat.pow_add,show t+(32 - t)=32 by omega]
  rw [es,Nat.mul_assoc,Nat.add_mul_mod_self_left,h1]
  simp
 ·rw [Ge h,show (32*k+t) / 32=k by omega,show (32*k+t) % 32=t by omega,hx]
  exact h2
theorem AaQ {n z:Nat} (h:AdA n z):n≠0:=fun h0=>by
 have:=h.2
 rw [h0] at this
 simp at this
def AfB (a:List Nat) (w:World) (i:Value) (wr:World):Prop:=∃ k:Nat,k≤a.length∧i=.int .i64 (k:Int)∧AO (a.take k)=0∧w=wr
theorem Vm (A:Option Addr) (n c m:Nat) (w:World) (hm:m≤w.heap.size) (h:Am w m A (w32 (Ad n))) (hl:(Ad n).length≤100000) (ht:Ax w) :
  Calls Tryz.prog 162 #[.slice A (Ad n).length c] w fun e w'=>(∃ z:Nat,e=.returned (.int .i64 (z:Int))∧(n=0→z=1099511627776)∧(n≠0→AdA n z∧z≤3200000))∧w=w':=by
 have H:=Lib.hid h
 have HT:=Lib.hid ht
 clear h ht
 go_enter Tryz.func162,Tryz.ntmps162
 go_wp2_with fail
 go_loopw [7] (fun i wr=>AfB (Ad n) w i wr) (fun i _=>(Ad n).length - (intOf i).toNat)
 case atStart=>exact ⟨0,Nat.zero_le _,rfl,rfl,rfl⟩
 case round =>
  obtain ⟨k,hk,rfl,h0,rfl⟩:=hrel
  have H0:=Lib.hid h0
  clear h0
  by_cases hlt:k<(Ad n).length
  ·obtain ⟨b1,o1,x,rfl,q1,q2,hx,g1⟩:=H.out.w32_ hlt
   have bx:=AV n x (List.mem_of_getElem? hx)
   have HX:=Lib.hid (show (Ad n)[k]?.getD 0=x by rw [hx];rfl)
   have ka':(k:Int)<((Ad n).length:Int):=by omega
   have HXX:=Lib.hid hx
   clear hx
   by_cases hz:x=0
   ·subst hz
    go_wp2_with fail
    refine ⟨⟨k+1,by omega,by go_num,?_,rfl⟩,by simp [intOf];try omega⟩
    rw [Bn,H0.out,HX.out]
    simp
   ·obtain ⟨t,ht,h1,h2⟩:=Vl 32 (x:=x) (by omega) (by omega)
    have hz':((x:Int) != 0)=true:=by simp;omega
    have H1:=Lib.hid h1
    have H2:=Lib.hid h2
    clear h1 h2
    go_wp2_with (go_at_call 231;refine (Adz x t w bx ht H1.out H2.out HT.out).mono ?_;rintro e w1 ⟨rfl,rfl⟩)
    go_ret
    have hhit:=AdB (AV n) H0.out HX.out ht H1.out H2.out
    rw [AE] at hhit
    refine ⟨⟨32*k+t,?_,fun hn=>absurd hn (AaQ hhit),fun _=>⟨hhit,by omega⟩⟩,rfl⟩
    have:((32*k+t:Nat):Int)=32*(k:Int)+(t:Int):=by omega
    rw [this]
    rfl
  ·have hle:¬ (k:Int)<((Ad n).length:Int):=by omega
   go_wp2_with fail
   go_ret
   refine ⟨⟨1099511627776,rfl,fun _=>rfl,fun hn=>?_⟩,rfl⟩
   exfalso
   have:=H0.out
   rw [List.take_of_length_le (by omega),AE] at this
   exact hn this
end Go.Proofs.YtmdfjbpggbhgnaaGreatDoor
namespace Go.Proofs.YtmdfjbpggbhgnaaGreatDoor
open Go.RowKit
theorem Sg (A:Option Addr) (a:List Nat) (c i m:Nat) (w:World) (h:Am w m A (w32 a)) (hi:i≤1000000) (hl:a.length≤1000000) :
  Calls Tryz.prog 163 #[.slice A a.length c,.int .i64 (i:Int)] w fun e w'=>e=.returned (.int .u32 ((a[i]?.getD 0:Nat):Int))∧w=w':=by
 by_cases hlt:i<a.length
 ·obtain ⟨b1,o1,x,rfl,q1,q2,hx,g1⟩:=h.w32_ hlt
  have hil:(i:Int)<(a.length:Int):=by omega
  have HX:=Lib.hid (show a[i]?.getD 0=x by rw [hx];rfl)
  clear hx h
  go_enter Tryz.func163,Tryz.ntmps163
  go_wp2_with fail
  go_ret
  exact ⟨by rw [HX.out];rfl,rfl⟩
 ·have hil:¬ (i:Int)<(a.length:Int):=by omega
  have HX:=Lib.hid (show a[i]?.getD 0=0 by rw [List.getElem?_eq_none (by omega)];rfl)
  clear h
  go_enter Tryz.func163,Tryz.ntmps163
  go_wp2_with fail
  go_ret
  exact ⟨by first|rfl|(rw [HX.out];rfl),rfl⟩
theorem FF:Tryz.prog.underlying 112=some (.slice 126):=by kernel_rfl
theorem Ds.put {w:World} {base g n c:Nat} {xs:List Nat} (h:Ds w base (.slice (some ⟨g,0,none⟩) n c) xs) (hn:n=xs.length) (j z:Nat):Ds (w.setCell ⟨g,j,none⟩ (.int .u32 (z:Int))) base (.slice (some ⟨g,0,none⟩) n c) (xs.set j z):=by
 subst hn
 have e:w32 (xs.set j z)=(w32 xs).set j (.int .u32 (z:Int)):=by simp [w32,List.map_set]
 have h2:w.ownsRow base 126 1 (.slice (some ⟨g,0,none⟩) xs.length c) xs.length (w32 xs):=h
 have h3:=(World.ownsRow.stored h2 j (.int .u32 (z:Int))).1
 unfold Ds
 rw [e,List.length_set]
 exact h3
theorem Ds.cellA {w:World} {base g n c j z:Nat} {xs:List Nat} (h:Ds w base (.slice (some ⟨g,0,none⟩) n c) xs) (hz:xs[j]?=some z):w.cell? ⟨g,j,none⟩=some (.int .u32 (z:Int)):=by
 obtain ⟨A',c',he,_,hc⟩:=h.view
 cases he
 have hj:j<xs.length:=(List.getElem?_eq_some_iff.1 hz).1
 obtain ⟨b,off,z',hA,_,_,hx,hcc⟩:=hc.w32_ hj
 cases hA
 rw [hz] at hx
 cases hx
 simpa using hcc
theorem Ds.freeA {w:World} {base g n c:Nat} {xs:List Nat} (h:Ds w base (.slice (some ⟨g,0,none⟩) n c) xs) (hn:n=xs.length) (j:Nat):w.frozen? ⟨g,j,none⟩=false:=by
 subst hn
 have h2:w.ownsRow base 126 1 (.slice (some ⟨g,0,none⟩) xs.length c) xs.length (w32 xs):=h
 exact World.ownsRow.frozenAt h2 j
theorem Vn {w2:World} {base g L:Nat} (h:w2.ownsRow base 126 1 (.slice (some ⟨g,0,none⟩) L L) L (madeCells (Value.int .u32 0).cells (L*1)).toList):Ds w2 base (.slice (some ⟨g,0,none⟩) L L) (List.replicate L 0):=by
 have e1:w32 (List.replicate L 0)=(madeCells (Value.int .u32 0).cells (L*1)).toList:=by
  rw [Nat.mul_one]
  have:=toList_madeCells_one (Value.int .u32 0) L
  simp only [w32,List.map_replicate]
  exact this.symm
 unfold Ds
 rw [e1,List.length_replicate]
 exact h
theorem Vo {os:List Nat} {k L z:Nat} (hl:os.length=k) (hk:k<L):(os++List.replicate (L - k) 0).set k z=(os++[z])++List.replicate (L - (k+1)) 0:=by
 rw [List.set_append_right _ _ (by omega),hl,Nat.sub_self,show L - k=(L - (k+1))+1 by omega,List.replicate_succ,List.set_cons_zero]
 simp
def AfC (w:World) (a:List Nat) (n q g L:Nat) (i:Value) (wr:World):Prop :=
 ∃ (k:Nat) (os:List Nat),k≤L∧i=.int .i64 (k:Int)∧Ds wr w.heap.size (.slice (some ⟨g,0,none⟩) L L) (os++List.replicate (L - k) 0)∧os.length=k∧Az os∧AO os=AO a / 2 ^ n % 4294967296 ^ k∧Below w.heap.size w wr
theorem TN (A:Option Addr) (a:List Nat) (c n m:Nat) (w:World) (hm:m≤w.heap.size) (h1:Am w m A (w32 a)) (ha:Az a) (l1:a.length≤100000) (hn:n≤1000000) :
  Calls Tryz.prog 72 #[.slice A a.length c,.int .i64 (n:Int)] w fun e w' =>
   ∃ G g,e=.returned (.slice G (Ad (AO a / 2 ^ n)).length g)∧(G=none→g=0)∧(Ad (AO a / 2 ^ n)).length≤g∧Am w' w'.heap.size G (w32 (Ad (AO a / 2 ^ n)))∧Below w.heap.size w w':=by
 have H1:=Lib.hid h1
 have HA:=Lib.hid ha
 obtain ⟨q,hq⟩:∃ q,q=n / 32:=⟨_,rfl⟩
 have hqi:(n:Int) / 32=(q:Int):=by omega
 have HQ:=Lib.hid hq
 clear h1 ha
 by_cases hbig:a.length≤q
 ·have hz:Ad (AO a / 2 ^ n)=[]:=by
   have hl:=BV HA.out
   rw [←ZT] at hl
   rw [Nat.div_eq_of_lt (Nat.lt_of_lt_of_le hl (Nat.pow_le_pow_right (by decide) (by omega))),AP]
  have HZ:=Lib.hid hz
  have hbi:(a.length:Int)≤(q:Int):=by omega
  clear hz hq
  go_enter Tryz.func72,Tryz.ntmps72
  go_wp2_with fail
  go_ret
  exact ⟨none,0,by rw [HZ.out];rfl,fun _=>rfl,by rw [HZ.out];exact Nat.le_refl _,by rw [HZ.out];exact Am.nil_,Below.refl _ _⟩
 ·obtain ⟨L,hL⟩:∃ L,L=a.length - q:=⟨_,rfl⟩
  have hLi:(a.length:Int) - (q:Int)=(L:Int):=by omega
  have hbi:¬ (a.length:Int)≤(q:Int):=by omega
  have hL6:L≤100000:=by omega
  have HL:=Lib.hid hL
  obtain ⟨i0,hi,hz0,hz1,hz2⟩:=info_parts NV
  clear hbig hq hL
  go_enter Tryz.func72,Tryz.ntmps72
  go_wp2_with (with_reducible refine wpList_make_full _ rfl (.tmp 22) (.tmp 22) 112 rfl w.heap.size 126 i0 (.int .u32 0) 1 FF hi hz0 hz1 .i64 .i64 _ _ L rfl rfl rfl rfl (by rw [hz2];omega) (by unfold maxLen;omega) (Nat.le_refl _) ?_;intro w2 hown hg)
  have hst:=(Below.refl w.heap.size w).grown hg (Nat.le_refl _) (fun k h=>by simp at h)
  have hown2:=Vn hown
  obtain ⟨g,hg1⟩:∃ g,g=w.heap.size:=⟨_,rfl⟩
  have hgw:=Lib.hid hg1
  rw [←hg1]
  rw [show Ds w2 w.heap.size (.slice (some ⟨w.heap.size,0,none⟩) L L) (List.replicate L 0)=Ds w2 w.heap.size (.slice (some ⟨g,0,none⟩) L L) (List.replicate L 0) by rw [hg1]] at hown2
  clear hown hg hi hz0 hz1 hz2 hg1
  go_loopw [26] (fun i wr=>AfC w a n q g L i wr) (fun i _=>L - (intOf i).toNat)
  case atStart=>exact ⟨0,[],Nat.zero_le _,rfl,by simpa using hown2,rfl,by simp [Az],by simp [AO,Nat.mod_one],hst⟩
  case round =>
   as_aux_lemma =>
   obtain ⟨k,os,hk,rfl,hown,hol,hok,hv,hb⟩:=hrel
   have HO:=Lib.hid hown
   have HOL:=Lib.hid hol
   have HOK:=Lib.hid hok
   have HV:=Lib.hid hv
   have hsz:=hb.size
   have hlen:=Lib.hid (show L=(os++List.replicate (L - k) 0).length by simp;omega)
   clear hown hol hok hv hown2 hst
   by_cases hlt:k<L
   ·as_aux_lemma =>
    obtain ⟨u,hu⟩:∃ u,u=q+k:=⟨_,rfl⟩
    have hul:u<a.length:=by have:=HL.out;omega
    obtain ⟨b1,o1,x,rfl,q1,_,hx,g1'⟩:=H1.out.w32_ hul
    have g1:=(hb.cell (p:=⟨b1,o1+u,none⟩) (Nat.lt_of_lt_of_le q1 hm)).trans g1'
    have bx:=HA.out x (List.mem_of_getElem? hx)
    have HX:=Lib.hid (show a[n / 32+k]?.getD 0=x by rw [←HQ.out,←hu,hx];rfl)
    obtain ⟨y,hy⟩:∃ y,y=a[u+1]?.getD 0:=⟨_,rfl⟩
    have HYU:=Lib.hid hy
    have HY:=Lib.hid (show a[n / 32+k+1]?.getD 0=y by rw [←HQ.out,←hu,hy])
    have by':y<4294967296:=by
     rw [hy]
     by_cases hyl:u+1<a.length
     ·rw [List.getElem?_eq_getElem hyl];exact HA.out _ (List.getElem_mem hyl)
     ·rw [List.getElem?_eq_none (by omega)];decide
    have w1:IntKind.i64.wrap ((k:Int)+(q:Int))=(u:Int):=by rw [IntKind.wrap_i64];omega
    have w2':IntKind.i64.wrap ((u:Int)+1)=((u+1:Nat):Int):=by rw [IntKind.wrap_i64];omega
    have w3:IntKind.u64.wrap ((y:Int)*4294967296)=(y:Int)*4294967296:=by rw [IntKind.wrap_u64];omega
    obtain ⟨s,hs⟩:∃ s,s=x+4294967296*y:=⟨_,rfl⟩
    have hor:bits .or .u64 ((y:Int)*4294967296) (x:Int)=(s:Int):=by rw [hs];exact Adx by' bx
    obtain ⟨z,hzn⟩:∃ z:Nat,z=(x+y*4294967296) / 2 ^ (n % 32) % 4294967296:=⟨_,rfl⟩
    have hz:((s:Int) / 2 ^ (n % 32) % 4294967296)=(z:Int):=by rw [hzn,hs,Nat.mul_comm 4294967296 y];simp
    have HZ:=Lib.hid (show z=(a[n / 32+k]?.getD 0+a[n / 32+k+1]?.getD 0*4294967296) / 2 ^ (n % 32) % 4294967296 by rw [HX.out,HY.out];exact hzn)
    have HZB:=Lib.hid (show z<4294967296 by rw [hzn];exact Nat.mod_lt _ (by decide))
    have hul':(u:Int)<(a.length:Int):=by omega
    have hkl':(k:Int)<(L:Int):=by omega
    have hat:=fun nq=>Sg (some ⟨b1,o1,none⟩) a c (u+1) m (wr.drewN nq) (H1.out.below (below_drewN hb nq) hm) (by omega) (by omega)
    rw [←hy] at hat
    have HAT:=Lib.hid hat
    have f1:wr.cell? ⟨g,k,none⟩=some (.int .u32 0):=by
     have:=HO.out.cellA (j:=k) (z:=0) (by rw [List.getElem?_append_right (by rw [HOL.out];omega),HOL.out,Nat.sub_self];rw [List.getElem?_replicate];simp;omega)
     simpa using this
    have f2:∀ j,wr.frozen? ⟨g,j,none⟩=false:=fun j=>HO.out.freeA hlen.out j
    clear hy hx hs hzn hu g1' hat
    go_wp2_with fail
    go_quiet ((go_at_call 163;exact TK (HAT.out _)))
    go_wp2_with fail
    refine ⟨⟨k+1,os++[z],by omega,by go_num,?_,by rw [List.length_append,HOL.out];rfl,BS HOK.out HZB.out,QP HA.out HOL.out HV.out HZ.out,?_⟩,by simp [intOf];omega⟩
    ·have h5:=((HO.out.drewN nq).put hlen.out k z)
     rw [Vo HOL.out hlt] at h5
     exact h5
    ·exact (below_drewN hb nq).setCell (by have:=hgw.out;simp;omega) _
   ·as_aux_lemma =>
    have hkL:k=L:=by omega
    have hle:¬ (k:Int)<(L:Int):=by omega
    have hO:=HO.out
    rw [hkL,Nat.sub_self,List.replicate_zero,List.append_nil] at hO
    have hol:=HOL.out.trans hkL
    have hL6':os.length≤1000000:=by omega
    have HWV:=Lib.hid (ZQ (k:=k) HA.out (by have:=HQ.out;have:=HL.out;omega) HV.out)
    have HGC:=Lib.hid hO.cap_.2.2.2
    have hcall:=ER (some ⟨g,0,none⟩) os os.length wr.heap.size wr HGC.out (Nat.le_refl _) hL6'
    rw [hol] at hcall
    have HCALL:=Lib.hid hcall
    clear hkL hol hO hcall
    go_wp2_with (go_at_call 161;refine HCALL.out.mono ?_;rintro e w3 ⟨rfl,rfl⟩)
    go_ret
    have hcan:=Cv HOK.out
    rw [HWV.out] at hcan
    refine ⟨some ⟨g,0,none⟩,L,by rw [hcan];rfl,by simp,?_,?_,hb⟩
    ·rw [←hcan,Ci]
     have:=Dz os os.length
     have:=HOL.out
     omega
    ·rw [←hcan]
     exact HGC.out.takeW _
end Go.Proofs.YtmdfjbpggbhgnaaGreatDoor
namespace Go.Proofs.YtmdfjbpggbhgnaaGreatDoor
open Go.RowKit
theorem Sh {c l r:Nat} (hc:c<2 ^ r) (hl:l<4294967296) (hr:r≤32) (hd:l % 2 ^ r=0):bits .or .u32 (c:Int) (l:Int)=((c+l:Nat):Int)∧c+l<4294967296:=by
 have hp:=Nat.two_pow_pos r
 have e0:=Nat.div_add_mod l (2 ^ r)
 rw [hd,Nat.add_zero] at e0
 have h32:2 ^ r*2 ^ (32 - r)=4294967296:=by rw [←Nat.pow_add,show r+(32 - r)=32 by omega]
 have hq:l / 2 ^ r<2 ^ (32 - r):=(Nat.div_lt_iff_lt_mul hp).2 (by rw [Nat.mul_comm];omega)
 have hs:c+l<4294967296:=by
  have h1:2 ^ r*(l / 2 ^ r+1)≤2 ^ r*2 ^ (32 - r):=Nat.mul_le_mul_left _ hq
  rw [h32,Nat.mul_add,e0] at h1
  omega
 refine ⟨?_,hs⟩
 have hc32:c<4294967296:=by omega
 rw [(bits_nat .u32 32 (by decide) (fun n h0 h1=>by rw [IntKind.wrap_u32];omega) c l (by omega) (by omega)).2]
 have h:=Nat.two_pow_add_eq_or_of_lt hc (l / 2 ^ r)
 rw [e0] at h
 rw [Nat.or_comm,←h,Nat.add_comm]
theorem ZU {x r:Nat} (hr:r≤32):(x*2 ^ r) % 4294967296 % 2 ^ r=0:=by
 have h32:(4294967296:Nat)=2 ^ r*2 ^ (32 - r):=by rw [←Nat.pow_add,show r+(32 - r)=32 by omega]
 rw [h32,Nat.mod_mul_right_mod,Nat.mul_mod_left]
theorem Yg {pre:List Nat} {u m z c' cy:Nat} (hu:pre.length=u) (hm:0<m):((pre++cy::List.replicate m 0).set u z).set (u+1) c'=(pre++[z])++c'::List.replicate (m - 1) 0:=by
 subst hu
 obtain ⟨j,rfl⟩:∃ j,m=j+1:=⟨m - 1,by omega⟩
 simp [List.set_append,List.replicate_succ]
def AdC (w:World) (a:List Nat) (q p g L:Nat) (i:Value) (wr:World):Prop :=
 ∃ (k:Nat) (os:List Nat) (cy:Nat),k≤a.length∧i=.int .i64 (k:Int)∧Ds wr w.heap.size (.slice (some ⟨g,0,none⟩) L L) (os++cy::List.replicate (a.length - k) 0)∧os.length=q+k∧Az os∧cy<p ∧
  AO os+4294967296 ^ (q+k)*cy=AO (a.take k)*(4294967296 ^ q*p)∧Below w.heap.size w wr
theorem Vp (A:Option Addr) (n0:Nat) (c n m:Nat) (w:World) (hm:m≤w.heap.size) (h1:Am w m A (w32 (Ad n0))) (hcc:A=none→c=0) (hcap:(Ad n0).length≤c) (l1:(Ad n0).length≤100000) (hn:n≤1000000) :
    Calls Tryz.prog 70 #[.slice A (Ad n0).length c,.int .i64 (n:Int)] w fun e w' =>
      ∃ G g,e=.returned (.slice G (Ad (n0*2 ^ n)).length g)∧(G=none→g=0)∧(Ad (n0*2 ^ n)).length≤g∧Am w' w'.heap.size G (w32 (Ad (n0*2 ^ n)))∧Below w.heap.size w w':=by
  by_cases hz:n=0∨(Ad n0).length=0
  · have he:Ad (n0*2 ^ n)=Ad n0:=by
      rcases hz with h|h
      · rw [h];simp
      · have:n0=0:=by
          rcases Nat.eq_zero_or_pos n0 with h2|h2
          · exact h2
          · have:=Co (n:=n0) (by omega);omega
        rw [this];simp
    have HE:=Lib.hid he
    have H1:=Lib.hid h1
    clear he h1
    by_cases hn0:n=0
    · subst hn0
      clear hz
      go_enter Tryz.func70,Tryz.ntmps70
      go_wp2_with fail
      go_ret
      exact ⟨A,c,by rw [HE.out];rfl,hcc,by rw [HE.out];exact hcap,by rw [HE.out];exact H1.out.more hm,Below.refl _ _⟩
    · have hlz:(((Ad n0).length:Nat):Int)=0:=by rcases hz with h|h <;> omega
      have hlb:((((Ad n0).length:Nat):Int) == 0)=true:=by rw [hlz];rfl
      have hnb:((n:Int) == 0)=false:=by rw [beq_eq_false_iff_ne];omega
      have HLZ:=Lib.hid hlz
      clear hz hlz
      go_enter Tryz.func70,Tryz.ntmps70
      go_wp2_with fail
      go_ret
      exact ⟨A,c,by rw [HE.out];rfl,hcc,by rw [HE.out];exact hcap,by rw [HE.out];exact H1.out.more hm,Below.refl _ _⟩
  · obtain ⟨a,ha'⟩:∃ a,a=Ad n0:=⟨_,rfl⟩
    have ha:Az a:=by rw [ha'];exact AV n0
    have hv0:AO a=n0:=by rw [ha',AE]
    rw [←ha'] at h1 hcap l1 hz ⊢
    rw [←hv0]
    have hlb:(((a.length:Nat):Int) == 0)=false:=by rw [beq_eq_false_iff_ne];omega
    have hnb:((n:Int) == 0)=false:=by rw [beq_eq_false_iff_ne];omega
    clear hv0 ha' hz
    rw [LO n]
    obtain ⟨q,hq⟩:∃ q,q=n / 32:=⟨_,rfl⟩
    obtain ⟨p,hp⟩:∃ p,p=2 ^ (n % 32):=⟨_,rfl⟩
    have hp0:0<p:=by rw [hp];exact Nat.two_pow_pos _
    have hp32:p≤2147483648:=by
      rw [hp]
      exact Nat.pow_le_pow_right (n := 2) (by decide) (show n % 32 ≤ 31 by omega)
    rw [←hq,←hp]
    have HP:=Lib.hid hp
    have H1:=Lib.hid h1
    have HA:=Lib.hid ha
    have hqi:(n:Int) / 32=(q:Int):=by omega
    have hq6:q≤31250:=by omega
    obtain ⟨L,hL⟩:∃ L,L=a.length+q+1:=⟨_,rfl⟩
    have hLi:(a.length:Int)+(q:Int)+1=(L:Int):=by omega
    have hL6:L≤200000:=by omega
    have HL:=Lib.hid hL
    obtain ⟨i0,hi,hz0,hz1,hz2⟩:=info_parts NV
    clear h1 ha hp hq hL
    go_enter Tryz.func70,Tryz.ntmps70
    go_wp2_with (with_reducible refine wpList_make_full _ rfl (.tmp 28) (.tmp 28) 112 rfl w.heap.size 126 i0 (.int .u32 0) 1 FF hi hz0 hz1 .i64 .i64 _ _ L rfl rfl rfl rfl (by rw [hz2];omega) (by unfold maxLen;omega) (Nat.le_refl _) ?_;intro w2 hown hg)
    have hst:=(Below.refl w.heap.size w).grown hg (Nat.le_refl _) (fun k h=>by simp at h)
    have hown2:=Vn hown
    obtain ⟨g,hg1⟩:∃ g,g=w.heap.size:=⟨_,rfl⟩
    have hgw:=Lib.hid hg1
    rw [←hg1]
    rw [show Ds w2 w.heap.size (.slice (some ⟨w.heap.size,0,none⟩) L L) (List.replicate L 0)=Ds w2 w.heap.size (.slice (some ⟨g,0,none⟩) L L) (List.replicate L 0) by rw [hg1]] at hown2
    have hinit:List.replicate L 0=List.replicate q 0++0::List.replicate a.length 0:=by
      rw [HL.out,show a.length+q+1=q+(a.length+1) by omega,←List.replicate_append_replicate,List.replicate_succ]
    rw [hinit] at hown2
    clear hown hg hi hz0 hz1 hz2 hg1 hinit hLi
    go_loopw [32] (fun i wr=>AdC w a q p g L i wr) (fun i _=>a.length - (intOf i).toNat)
    case atStart=>exact ⟨0,List.replicate q 0,0,Nat.zero_le _,rfl,hown2,by simp,LM q,hp0,by simp [En,AO],hst⟩
    case round =>
      as_aux_lemma =>
      obtain ⟨k,os,cy,hk,rfl,hown,hol,hok,hcy,hv,hb⟩:=hrel
      have HO:=Lib.hid hown
      have HOL:=Lib.hid hol
      have HOK:=Lib.hid hok
      have HV:=Lib.hid hv
      have HCY:=Lib.hid hcy
      have hsz:=hb.size
      have hlen := Lib.hid (show L = (os ++ cy :: List.replicate (a.length - k) 0).length by have := HL.out; simp; omega)
      clear hown hol hok hv hown2 hst hcy
      by_cases hlt:k<a.length
      · as_aux_lemma =>
        obtain ⟨u,hu⟩:∃ u,u=k+q:=⟨_,rfl⟩
        have huu:(k:Int)+(q:Int)=(u:Int):=by omega
        have HU:=Lib.hid hu
        have huL:(u:Int)+1<(L:Int):=by have:=HL.out;omega
        obtain ⟨b1,o1,x,rfl,q1,_,hx,g1'⟩:=H1.out.w32_ hlt
        have g1:=(hb.cell (p:=⟨b1,o1+k,none⟩) (Nat.lt_of_lt_of_le q1 hm)).trans g1'
        have bx:=HA.out x (List.mem_of_getElem? hx)
        have HX := Lib.hid (show a[k]?.getD 0 = x by rw [hx]; rfl)
        have hr31:n % 32≤31:=by omega
        obtain ⟨t,ht⟩:∃ t,t=x*p:=⟨_,rfl⟩
        have htb:t<9223372036854775808:=by
          rw [ht]
          have:x*p≤4294967295*2147483648:=Nat.mul_le_mul (by omega) hp32
          omega
        have hT:IntKind.u64.wrap ((x:Int)*2 ^ (n % 32))=(t:Int):=by
          have e1:(x:Int)*2 ^ (n % 32)=((x*2 ^ (n % 32):Nat):Int):=by simp
          rw [e1,←HP.out,←ht,IntKind.wrap_u64]
          omega
        obtain ⟨lw,hlw⟩:∃ lw,lw=t % 4294967296:=⟨_,rfl⟩
        have hlwi:(t:Int) % 4294967296=(lw:Int):=by omega
        obtain ⟨c',hc'⟩:∃ c',c'=t / 4294967296:=⟨_,rfl⟩
        have hci:(t:Int) / 4294967296=(c':Int):=by omega
        have hcb:c'<4294967296:=by omega
        have hcp:=Ve HCY.out bx
        have hor:=Sh (c:=cy) (l:=lw) (r:=n % 32) (by rw [←HP.out];exact HCY.out) (by omega) (by omega) (by rw [hlw,ht,HP.out];exact ZU (by omega))
        have hor1:=hor.1
        obtain ⟨z,hzn⟩:∃ z,z=cy+lw:=⟨_,rfl⟩
        rw [←hzn] at hor1
        have HZB := Lib.hid (show z < 4294967296 by rw [hzn]; exact hor.2)
        have HZ := Lib.hid (show z + 4294967296 * c' = cy + x * p by rw [hzn, hlw, hc', ← ht]; omega)
        have HCP := Lib.hid (show c' < p by
          have h5:=HZ.out
          have h6:=HZB.out
          have h7:(cy+x*p) / 4294967296=c':=by omega
          rw [←h7]
          exact hcp)
        have f1:wr.cell? ⟨g,u,none⟩=some (.int .u32 (cy:Int)):=HO.out.cellA (by rw [List.getElem?_append_right (by rw [HOL.out,hu];omega),HOL.out,hu,show k+q - (q+k)=0 by omega];rfl)
        have f2:∀ j,wr.frozen? ⟨g,j,none⟩=false:=fun j=>HO.out.freeA hlen.out j
        have f3:wr.cell? ⟨g,u+1,none⟩=some (.int .u32 0):=by
          have:=HO.out.cellA (j:=u+1) (z:=0) (by
            rw [List.getElem?_append_right (by rw [HOL.out,hu];omega),HOL.out,hu,show k+q+1 - (q+k)=0+1 by omega,List.getElem?_cons_succ,List.getElem?_replicate,if_pos (by omega)])
          simpa using this
        have hgne:g<wr.heap.size:=(World.ownsRow.lt HO.out g rfl).2
        have hbg:b1≠g:=by have:=hgw.out;omega
        clear hx g1' ht hlw hc' hcp hor hzn hu
        go_wp2_with fail
        refine ⟨⟨k+1,os++[z],c',by omega,by go_num,?_,by rw [List.length_append,HOL.out];rfl,BS HOK.out HZB.out,HCP.out,Vf HOL.out HX.out HV.out HZ.out,?_⟩,by simp [intOf];omega⟩
        · have h5:=((HO.out.put hlen.out u z).put (by rw [List.length_set];exact hlen.out) (u+1) c')
          rw [Yg (by rw [HOL.out,HU.out];omega) (by omega),show a.length - k - 1=a.length - (k+1) by omega] at h5
          exact h5
        · exact (hb.setCell (by have:=hgw.out;simp;omega) _).setCell (by have:=hgw.out;simp;omega) _
      · as_aux_lemma =>
        have hkL:k=a.length:=by omega
        have hle:¬ (k:Int)<(a.length:Int):=by omega
        have hO:=HO.out
        rw [hkL,Nat.sub_self,List.replicate_zero] at hO
        obtain ⟨ws,hws⟩:∃ ws,ws=os++[cy]:=⟨_,rfl⟩
        rw [←hws] at hO
        have hwl:ws.length=L:=by rw [hws,List.length_append,HOL.out,HL.out,hkL];simp;omega
        have hwok:Az ws:=by rw [hws];exact BS HOK.out (by have:=HCY.out;omega)
        have hwv:AO ws=AO a*(4294967296 ^ q*p):=by
          have hv:=HV.out
          rw [List.take_of_length_le (by omega)] at hv
          rw [hws,Cc,HOL.out,←hv]
          simp only [AO,Nat.mul_zero,Nat.add_zero]
        have hcall:=ER (some ⟨g,0,none⟩) ws ws.length wr.heap.size wr hO.cap_.2.2.2 (Nat.le_refl _) (by omega)
        have HGC:=Lib.hid hO.cap_.2.2.2
        rw [hwl] at hcall
        have HCALL:=Lib.hid hcall
        have HWO:=Lib.hid hwok
        have HWV:=Lib.hid hwv
        have HWL:=Lib.hid hwl
        clear hkL hO hws hwl hwok hwv hcall
        go_wp2_with (go_at_call 161;refine HCALL.out.mono ?_;rintro e w3 ⟨rfl,rfl⟩)
        go_ret
        have hcan:=Cv HWO.out
        rw [HWV.out] at hcan
        refine ⟨some ⟨g,0,none⟩,L,by rw [hcan];rfl,by simp,?_,?_,hb⟩
        · rw [←hcan,Ci]
          have:=Dz ws ws.length
          have:=HWL.out
          omega
        · rw [←hcan]
          exact HGC.out.takeW _
end Go.Proofs.YtmdfjbpggbhgnaaGreatDoor
namespace Go.Proofs.YtmdfjbpggbhgnaaGreatDoor
open Go.RowKit
theorem IJ {P:Program} {t t2 e e2:TypeId} (ht:P.underlying t=some (.slice e)) (ht2:P.underlying t2=some (.slice e2)) (ty:TypeId) (s x:Value) (w:World) :
  (Builtin.append_ #[t,t2] ty #[s,x]).run P w=(Builtin.append_ #[t,t] ty #[s,x]).run P w:=by
 cases s with
 | slice base sl sc=>simp [Builtin.append_,run_underlying ht,run_underlying ht2]
 | _=>simp [Builtin.append_,run_underlying ht]
theorem Vq {w:World} {ops:Array Oper} {rest:List Oper} {o:Oper} {a:Act} {Q:Exit→Act→World→Prop} (hgd:o.guard=none) (s x:Operand)
  (ho:o.op=.call { callee:=.builtin .append,args:=#[s,x],argTypes:=#[41,112] })
  (base:Nat) (v:Value) (xs ys:List Nat) (A:Option Addr) (c m:Nat) (hs:a.eval s=v) (hown:Ds w base v xs) (hx:a.eval x=.slice A ys.length c) (hn:A=none→c=0) (hc:Am w m A (w32 ys))
  (hlen:xs.length+ys.length≤1000000) (hbase:base≤w.heap.size)
  (h:∀ v' w',Ds w' base v' (xs++ys)→Below base w w'→wpList Tryz.prog ops Q rest (a.put o.dst v') w'):wpList Tryz.prog ops Q (o::rest) a w:=by
 obtain ⟨i0,hi,hz0,hz1,hz2⟩:=info_parts ZP
 rcases A with _|⟨b,off,l⟩
 ·have hy:ys=[]:=by
   rcases ys with _|⟨y,ys⟩
   ·rfl
   ·obtain ⟨b,off,hA,_⟩:=hc (by simp [w32])
    cases hA
  subst hy
  have hc0:=hn rfl
  subst hc0
  refine wpList_plain hgd fun K hK=>?_
  have hrun:=run_append_owned_none (P:=Tryz.prog) (w:=w) base 41 o.type 126 i0 1 GJ hi v xs.length (w32 xs) hown
  rw [←IJ GJ FF] at hrun
  have hx':a.eval x=.slice none 0 0:=hx
  unfold Oper.wp
  simp only [execOp,ho,resolve,invoke,builtin,Sem.run_bind,Sem.run_pure,Result.andThen_ok,List.map_toArray,List.map_cons,List.map_nil,hs,hx',hrun]
  exact hK _ _ (h v w (by rw [List.append_nil];exact hown) (Below.refl _ _))
 ·have hcell:∀ j u,(w32 ys)[j]?=some u→w.cell? ((⟨b,off,l⟩:Addr).add j)=some u:=by
   intro j u hu
   obtain ⟨b',off',hA,_,_,hcc⟩:=hc (fun h0=>by rw [h0] at hu;simp at hu)
   cases hA
   have hu':=hcc j u hu
   rcases j with _|j
   ·simpa [Addr.add] using hu'
   ·simpa [Addr.add] using hu'
  have hone:∀ u∈w32 ys,u.oneCell'=true:=by
   intro u hu
   obtain ⟨z,_,rfl⟩:=List.mem_map.1 hu
   rfl
  obtain ⟨v',w',hr,h2,h3,h4⟩:=run_append_own (P:=Tryz.prog) w base 41 o.type 126 i0 (.int .u32 0) 1 4 GJ hi hz0 hz1 hz2 rfl (by decide) v xs.length (w32 xs) hown ⟨b,off,l⟩ ys.length c (w32 ys) (by simp [w32]) hcell hone (by unfold maxLen;omega) (by omega) hbase
  rw [←IJ GJ FF] at hr
  refine wpList_plain hgd fun K hK=>?_
  unfold Oper.wp
  simp only [execOp,ho,resolve,invoke,builtin,Sem.run_bind,Sem.run_pure,Result.andThen_ok,List.map_toArray,List.map_cons,List.map_nil,hs,hx,hr]
  refine hK _ _ (h v' w' ?_ ((Below.refl base w).grown h3 hbase (fun g hg=>(World.ownsRow.lt hown g hg).1)))
  have e:w32 (xs++ys)=w32 xs++w32 ys:=by simp [w32]
  unfold Ds
  rw [e,List.length_append]
  exact h2
theorem QU (A B:Option Addr) (a b:Nat) (c1 c2 m:Nat) (w:World) (h1:Am w m A (w32 (Ad a))) (h2:Am w m B (w32 (Ad b))) (l1:(Ad a).length≤100000) (l2:(Ad b).length≤100000) :
  Calls Tryz.prog 57 #[.slice A (Ad a).length c1,.slice B (Ad b).length c2] w fun e w'=>e=.returned (.int .i64 (sgI ((a:Int) - (b:Int))))∧Below w.heap.size w w':=by
 have H1:=Lib.hid h1
 have H2:=Lib.hid h2
 clear h1 h2
 by_cases hl:(Ad a).length=(Ad b).length
 ·have HL:=Lib.hid hl
  have e1:(((Ad a).length:Int) != ((Ad b).length:Int))=false:=by simp;omega
  clear hl
  go_enter Tryz.func57,Tryz.ntmps57
  go_wp2_with fail
  go_loopw [5] (fun i wr=>Adq w (Ad a) (Ad b) i wr) (fun i _=>(intOf i+1).toNat)
  case atStart=>exact ⟨(Ad a).length,0,Nat.le_refl _,rfl,by rw [List.drop_length,HL.out,List.drop_length],rfl⟩
  case round =>
   as_aux_lemma =>
   obtain ⟨k,nq,hk,rfl,hd,rfl⟩:=hrel
   have HD:=Lib.hid hd
   clear hd
   by_cases h0:k=0
   ·subst h0
    go_wp2_with fail
    go_ret
    refine ⟨?_,below_drewN (Below.refl _ _) _⟩
    have:=HD.out
    simp at this
    have hab:a=b:=by rw [←AE a,←AE b,this]
    subst hab
    have:sgI ((a:Int) - (a:Int))=0:=by rw [Int.sub_self];rfl
    rw [this]
    rfl
   ·obtain ⟨j,rfl⟩:=Nat.exists_eq_succ_of_ne_zero h0
    obtain ⟨b1,o1,x,rfl,_,_,hx,g1⟩:=H1.out.w32_ (k:=j) (by omega)
    obtain ⟨b2,o2,y,rfl,_,_,hy,g2⟩:=H2.out.w32_ (k:=j) (by have:=HL.out;omega)
    have HX:=Lib.hid hx
    have HY:=Lib.hid hy
    have hj:((j.succ:Nat):Int) - 1=(j:Int):=by omega
    have hja:(j:Int)<((Ad a).length:Int):=by omega
    have hjb:(j:Int)<((Ad b).length:Int):=by have:=HL.out;omega
    rw [hj]
    clear hx hy h0
    by_cases hxy:x=y
    ·subst hxy
     have e2:((x:Int) != (x:Int))=false:=by simp
     go_wp2_with fail
     go_quiet (fail)
     go_wp2_with fail
     exact ⟨⟨j,_,by omega,by go_num,Pu HX.out HY.out HD.out,rfl⟩,by simp [intOf];try omega⟩
    ·have e2:((x:Int) != (y:Int))=true:=by simp;omega
     have hla:=Vb (AV a) (AV b) HX.out HY.out HD.out hxy
     rw [AE,AE] at hla
     by_cases hlt:x<y
     ·have e3:decide ((x:Int)<(y:Int))=true:=decide_eq_true (by omega)
      have hab:a<b:=by rw [decide_eq_true hlt] at hla;simpa using hla
      have HV:=Lib.hid (show sgI ((a:Int) - (b:Int)) = -1 by unfold sgI;rw [if_neg (by omega),if_pos (by omega)])
      clear hla hab hxy
      go_wp2_with fail
      go_quiet (fail)
      go_wp2_with fail
      go_quiet (fail)
      go_wp2_with fail
      go_ret
      exact ⟨by rw [HV.out];rfl,by repeat (first|exact Below.refl _ _|refine DW ?_ _)⟩
     ·have e3:decide ((x:Int)<(y:Int))=false:=decide_eq_false (by omega)
      have hab:¬ a<b:=by rw [decide_eq_false hlt] at hla;simpa using hla
      have hba:b<a:=by
       rcases Nat.lt_or_ge b a with h|h
       ·exact h
       ·exfalso
        have:a=b:=by omega
        subst this
        have:=HX.out.symm.trans HY.out
        simp at this
        exact hxy this
      have HV:=Lib.hid (show sgI ((a:Int) - (b:Int))=1 by unfold sgI;rw [if_neg (by omega),if_neg (by omega)])
      clear hla hab hba hxy
      go_wp2_with fail
      go_quiet (fail)
      go_wp2_with fail
      go_quiet (fail)
      go_wp2_with fail
      go_ret
      exact ⟨by rw [HV.out];rfl,by repeat (first|exact Below.refl _ _|refine DW ?_ _)⟩
 ·have e1:(((Ad a).length:Int) != ((Ad b).length:Int))=true:=by simp;omega
  by_cases hlt:(Ad a).length<(Ad b).length
  ·have hli:((Ad a).length:Int)<((Ad b).length:Int):=by omega
   have hab:a<b:=by
    rcases Nat.lt_or_ge a b with h|h
    ·exact h
    ·have:=AX h;omega
   have HV:=Lib.hid (show sgI ((a:Int) - (b:Int)) = -1 by unfold sgI;rw [if_neg (by omega),if_pos (by omega)])
   clear hab hl hlt
   go_enter Tryz.func57,Tryz.ntmps57
   go_wp2_with fail
   go_ret
   exact ⟨by rw [HV.out];rfl,Below.refl _ _⟩
  ·have hli:¬ ((Ad a).length:Int)<((Ad b).length:Int):=by omega
   have hab:b<a:=by
    rcases Nat.lt_or_ge b a with h|h
    ·exact h
    ·have:=AX h;omega
   have HV:=Lib.hid (show sgI ((a:Int) - (b:Int))=1 by unfold sgI;rw [if_neg (by omega),if_neg (by omega)])
   clear hab hl hlt
   go_enter Tryz.func57,Tryz.ntmps57
   go_wp2_with fail
   go_ret
   exact ⟨by rw [HV.out];rfl,Below.refl _ _⟩
end Go.Proofs.YtmdfjbpggbhgnaaGreatDoor
namespace Go.Proofs.YtmdfjbpggbhgnaaGreatDoor
open Go.RowKit
theorem AaR {v:Value} {n m:Nat} {w:World} (h:WdR w m v n) (hl:(Ad n).length≤1000000):Calls Tryz.prog 161 #[v] w fun e w'=>e=.returned v∧w=w':=by
 obtain ⟨A,c,rfl,h1,h2,h3⟩:=h
 have h:=ER A (Ad n) c m w h3 h2 hl
 have e:GI (Ad n)=Ad n:=by rw [Cv (AV n),AE]
 rw [e] at h
 exact h
theorem NZ {v:Value} {n k m:Nat} {w:World} (h:WdR w m v n) (hm:m≤w.heap.size) (hl:(Ad n).length≤100000) (hk:k≤1000000) :
  Calls Tryz.prog 72 #[v,.int .i64 (k:Int)] w fun e w'=>∃ v',e=.returned v'∧WdR w' w'.heap.size v' (n / 2 ^ k)∧Below w.heap.size w w':=by
 obtain ⟨A,c,rfl,h1,h2,h3⟩:=h
 refine (TN A (Ad n) c k m w hm h3 (AV n) hl hk).mono ?_
 rintro e w' ⟨G,g,rfl,g1,g2,g3,hb⟩
 rw [AE] at g2 g3 ⊢
 exact ⟨_,rfl,⟨G,g,rfl,g1,g2,g3⟩,hb⟩
theorem QV {v:Value} {n k m:Nat} {w:World} (h:WdR w m v n) (hm:m≤w.heap.size) (hl:(Ad n).length≤100000) (hk:k≤1000000) :
  Calls Tryz.prog 70 #[v,.int .i64 (k:Int)] w fun e w'=>∃ v',e=.returned v'∧WdR w' w'.heap.size v' (n*2 ^ k)∧Below w.heap.size w w':=by
 obtain ⟨A,c,rfl,h1,h2,h3⟩:=h
 refine (Vp A n c k m w hm h3 h1 h2 hl hk).mono ?_
 rintro e w' ⟨G,g,rfl,g1,g2,g3,hb⟩
 exact ⟨_,rfl,⟨G,g,rfl,g1,g2,g3⟩,hb⟩
theorem HH {v v2:Value} {a b m:Nat} {w:World} (h:WdR w m v a) (h2:WdR w m v2 b) (hl:(Ad a).length≤100000) (hl2:(Ad b).length≤100000) :
  Calls Tryz.prog 57 #[v,v2] w fun e w'=>e=.returned (.int .i64 (sgI ((a:Int) - (b:Int))))∧Below w.heap.size w w':=by
 obtain ⟨A,c,rfl,h1,h1',h3⟩:=h
 obtain ⟨A2,c2,rfl,k1,k1',k3⟩:=h2
 exact QU A A2 a b c c2 m w h3 k3 hl hl2
theorem AaS {v:Value} {n m:Nat} {w:World} (h:WdR w m v n) (hm:m≤w.heap.size) (hl:(Ad n).length≤100000) (ht:Ax w) :
  Calls Tryz.prog 162 #[v] w fun e w'=>(∃ z:Nat,e=.returned (.int .i64 (z:Int))∧(n=0→z=1099511627776)∧(n≠0→AdA n z∧z≤3200000))∧w=w':=by
 obtain ⟨A,c,rfl,h1,h2,h3⟩:=h
 exact Vm A n c m w hm h3 hl ht
theorem Vr {neg:Bool} {n den z:Nat} (hz:n % 2 ^ z=0):∀ k,k≤z→k≤den→nf (sg neg n) den=nf (sg neg (n / 2 ^ k)) (den - k)
 | 0,_,_=>by simp
 | k+1,h1,h2=>by
  rw [Vr hz k (by omega) (by omega),Vi (by omega) ?_]
  have e:=Nat.div_add_mod n (2 ^ z)
  rw [hz,Nat.add_zero] at e
  have es:2 ^ z=2 ^ k*(2*2 ^ (z - k - 1)):=by rw [←Nat.pow_succ',←Nat.pow_add];congr 1;omega
  rw [←e,es,Nat.mul_assoc,Nat.mul_assoc,Nat.mul_div_cancel_left _ (Nat.two_pow_pos k)]
  omega
theorem AfD {neg:Bool} {n den z:Nat} (h:AdA n z):nf (sg neg n) den=(sg neg (n / 2 ^ (min z den)),den - min z den):=by
 rw [Vr h.1 (min z den) (by omega) (by omega)]
 refine Ep (fun h0=>?_)
 have:min z den=z:=by omega
 rw [this]
 have:=h.2
 unfold sg
 split <;> omega
theorem Fd {tmps:Array Value} {w:World} {b:Nat} {v0 v1 v2:Value} (h2:tmps.getD 6 undef=.pointer (some ⟨b,0,none⟩)) (hB:Bh w b [v0,v1,v2] 43) :
  (results Tryz.f71 tmps).run Tryz.prog w=.ok (.agg #[v0,v1,v2]) w:=by
 have k0:=hB.cell 0
 have k1:=hB.cell 1
 have k2:=hB.cell 2
 simp at k0 k1 k2
 simp at h2
 simp [results,Tryz.results71,go_sem,h2,k0,k1,k2]
theorem al_ (u:World) (o:Obj):Below u.heap.size u (u.alloc o):=(Below.refl _ u).alloc (Nat.le_refl _) o
theorem DX {neg:Bool} {v:Value} {n d m:Nat} {w:World} (h:WdR w m v n) (hm:m≤w.heap.size) (hl:(Ad n).length≤100000) (hd:d≤65536) (ht:Ax w) :
    Calls Tryz.prog 71 #[.bool neg,v,.int .i64 (d:Int)] w fun e w' =>
      ∃ v',e=.returned v'∧DyR w' w.heap.size w'.heap.size v' (nf (sg neg n) d).1 (nf (sg neg n) d).2∧Below w.heap.size w w':=by
  obtain ⟨A0,L0,c0,rfl⟩:=h.form
  have X:=Lib.hid h
  have HT:=Lib.hid ht
  clear h ht
  have b0:Below w.heap.size w (w.alloc (.cells #[.bool false,.slice none 0 0,.int .i64 0] 43)):=Aq (Below.refl _ _) _
  have r0:=Bh.new_ w [.bool false,.slice none 0 0,.int .i64 0] 43
  go_enter Tryz.func71,Tryz.ntmps71
  go_wp2_with fail
  go_at_call 161
  refine (AaR (X.out.below b0 hm) (by omega)).mono ?_
  rintro e w3 ⟨rfl,rfl⟩
  go_wp2_with fail
  go_at_call 162
  refine (AaS (X.out.below b0 hm) (by simp;omega) (by omega) (HT.out.call (al_ _ _))).mono ?_
  rintro e w3 ⟨⟨z,rfl,hz1,hz2⟩,rfl⟩
  obtain ⟨k,hk⟩:∃ k:Nat,k=min z d:=⟨_,rfl⟩
  have hmin:min (z:Int) (d:Int)=(k:Int):=by omega
  have hkd:k≤d:=by omega
  have hdk:¬ (65536:Int)<(d:Int) - (k:Int):=by omega
  have hdk0:¬ (65536:Int)<(d:Int):=by omega
  have hzz:z≤1099511627776:=by
    by_cases h0:n=0
    · have:=hz1 h0;omega
    · have:=(hz2 h0).2;omega
  have hval:n≠0→nf (sg neg n) d=(sg neg (n / 2 ^ k),d - k):=fun h0=>by rw [hk];exact AfD (hz2 h0).1
  have hn2:n≠0→n / 2 ^ k≠0:=fun h0 h1=>by
    have h3:=(hz2 h0).1
    have h4:n / 2 ^ z=0:=by
      have hle:2 ^ k≤2 ^ z:=Nat.pow_le_pow_right (by decide) (by omega)
      have:=Nat.lt_of_div_eq_zero (Nat.two_pow_pos k) h1
      exact Nat.div_eq_of_lt (Nat.lt_of_lt_of_le this hle)
    have:=h3.2
    rw [h4] at this
    simp at this
  have hk0:n=0→k=d:=fun h0=>by have:=hz1 h0;omega
  have HVAL:=Lib.hid hval
  have HN2:=Lib.hid hn2
  have HK0:=Lib.hid hk0
  clear hz1 hz2 hk hval hn2 hk0
  by_cases hk1:k=0
  · as_aux_lemma =>
    have hkp:¬ 0<k:=by omega
    have hkp':¬ (0:Int)<(k:Int):=by omega
    by_cases hn:n=0
    · as_aux_lemma =>
      obtain ⟨wv,hwv⟩:∃ wv,wv=w.alloc (.cells #[.bool false,.slice none 0 0,.int .i64 0] 43):=⟨_,rfl⟩
      rw [←hwv]
      have rv:Bh wv w.heap.size [.bool false,.slice none 0 0,.int .i64 0] 43:=by rw [hwv];exact r0
      have bv:Below w.heap.size w wv:=by rw [hwv];exact b0
      have Y0:=X.out.below bv hm
      clear hwv r0 b0
      have HRES := Lib.hid (show nf (sg neg n) d = (0, 0) by rw [hn, show sg neg 0 = 0 by unfold sg; split <;> rfl]; exact QS d)
      have hL:(L0:Int)=0:=by
        obtain ⟨A,c,he,_⟩:=Y0
        cases he
        rw [hn,AP];rfl
      have hLb:((L0:Int) == 0)=true:=by rw [hL];rfl
      have HLZ:=Lib.hid hL
      subst hk1
      clear hL hn Y0
      have u1:=rv
      have q0:wv.cell? ⟨w.heap.size,0,none⟩=some (.bool false):=u1.cell 0
      have q1:wv.cell? ⟨w.heap.size,1,none⟩=some (.slice none 0 0):=u1.cell 1
      have q2:wv.cell? ⟨w.heap.size,2,none⟩=some (.int .i64 0):=u1.cell 2
      have qf:=u1.free
      have hu1:=u1.lt
      go_wp2_with fail
      refine bodyPost_ret (Fd rfl (((u1.set_ 0 _).set_ 1 _).set_ 2 _)) rfl ⟨_,rfl,?_,((bv.setCell (by simp) _).setCell (by simp) _).setCell (by simp) _⟩
      rw [HRES.out]
      exact DyR.zero_ _ _ _
    · as_aux_lemma =>
      obtain ⟨wv,hwv⟩:∃ wv,wv=w.alloc (.cells #[.bool false,.slice none 0 0,.int .i64 0] 43):=⟨_,rfl⟩
      rw [←hwv]
      have rv:Bh wv w.heap.size [.bool false,.slice none 0 0,.int .i64 0] 43:=by rw [hwv];exact r0
      have bv:Below w.heap.size w wv:=by rw [hwv];exact b0
      have Y0:=X.out.below bv hm
      clear hwv r0 b0
      obtain ⟨y,hy⟩:∃ y,y=n / 2 ^ k:=⟨_,rfl⟩
      have HRES := Lib.hid (show nf (sg neg n) d = (sg neg y, d - k) by rw [HVAL.out hn, hy])
      have HODD := Lib.hid (show d - k ≠ 0 → sg neg y % 2 = 1 by
        have h5:=Vh (sg neg n) d
        rw [HRES.out] at h5
        exact h5)
      have HY0 := Lib.hid (show y ≠ 0 by rw [hy]; exact HN2.out hn)
      have hyl:(Ad y).length≤100000:=Nat.le_trans (AX (by rw [hy];exact Nat.div_le_self _ _)) hl
      have hyp:=Co HY0.out
      have e0:(((Ad y).length:Int) == 0)=false:=by rw [beq_eq_false_iff_ne];omega
      have hyn:y=n:=by rw [hy,hk1];simp
      subst hk1
      rw [←hyn] at Y0
      obtain ⟨A5,c5,he5,g1,g2,g3⟩:=Y0
      cases he5
      have G3:=Lib.hid g3
      obtain ⟨hi5,hhi5⟩:∃ hi5,hi5=m:=⟨_,rfl⟩
      rw [←hhi5] at g3
      clear hy hn hyn hhi5
      go_wp2_with (at_builtin
                   refine Vq rfl _ _ rfl wv.heap.size _ [] (Ad y) A0 c0 hi5 rfl (Ds.nil_ _ _) rfl g1 g3 (by simp;omega) (Nat.le_refl _) ?_
                   intro v' w4 hown4 hb4
                   rw [List.nil_append] at hown4
                   obtain ⟨A',c',rfl,_,_⟩:=hown4.view
                   have u1:=rv.call hb4
                   have bv4:=bv.trans (hb4.mono (by have:=bv.size;omega))
                   have hsv:=rv.lt
                   have hsz4:=hb4.size
                   clear hb4
                   have q0:w4.cell? ⟨w.heap.size,0,none⟩=some (.bool false):=u1.cell 0
                   have q1:w4.cell? ⟨w.heap.size,1,none⟩=some (.slice none 0 0):=u1.cell 1
                   have q2:w4.cell? ⟨w.heap.size,2,none⟩=some (.int .i64 0):=u1.cell 2
                   have qf:=u1.free
                   have hu1:=u1.lt)
      have hown5:Ds (((w4.setCell ⟨w.heap.size,0,none⟩ (.bool neg)).setCell ⟨w.heap.size,1,none⟩ (.slice A' (Ad y).length c')).setCell ⟨w.heap.size,2,none⟩ (.int .i64 (d:Int))) wv.heap.size (.slice A' (Ad y).length c') (Ad y):=ownsRow_setCell_below (ownsRow_setCell_below (ownsRow_setCell_below hown4 (by simp;omega) _) (by simp;omega) _) (by simp;omega) _
      refine bodyPost_ret (Fd rfl (((u1.set_ 0 _).set_ 1 _).set_ 2 _)) rfl ⟨_,rfl,?_,((bv4.setCell (by simp) _).setCell (by simp) _).setCell (by simp) _⟩
      rw [HRES.out]
      obtain ⟨_,hcl,hn',hc'⟩:=hown5.cap_
      refine ⟨A',c',?_,hn',?_,?_,?_,by show d - 0≤65536;omega,?_⟩
      · rw [EP,Se HY0.out]
        have:(d:Int)=((d - 0:Nat):Int):=by omega
        rw [this]
      · rw [EP];exact hcl
      · rw [EP];exact hc'
      · intro a ha
        have:=(World.ownsRow.lt hown5 a.block (by rw [ha];rfl)).1
        have:=bv.size
        omega
      · intro h
        have h5:=HODD.out h
        exact h5
  · have hkp:0<k:=by omega
    have hkp':(0:Int)<(k:Int):=by omega
    by_cases hn:n=0
    · as_aux_lemma =>
      have HRES := Lib.hid (show nf (sg neg n) d = (0, 0) by rw [hn, show sg neg 0 = 0 by unfold sg; split <;> rfl]; exact QS d)
      have hkd0:=HK0.out hn
      go_wp2_with fail
      go_at_call 72
      refine (NZ (X.out.below b0 hm) (by simp;omega) hl (by omega)).mono ?_
      rintro e wv ⟨v5,rfl,Y0,hb5⟩
      have rv:=r0.call hb5
      have bv:=b0.trans (hb5.mono (by simp))
      clear hb5 r0 b0
      rw [hn,Nat.zero_div] at Y0
      obtain ⟨A5,c5,he5,g1,g2,g3⟩:=Y0
      rw [AP] at he5
      subst he5
      clear hn g1 g2 g3
      have u1:=rv
      have q0:wv.cell? ⟨w.heap.size,0,none⟩=some (.bool false):=u1.cell 0
      have q1:wv.cell? ⟨w.heap.size,1,none⟩=some (.slice none 0 0):=u1.cell 1
      have q2:wv.cell? ⟨w.heap.size,2,none⟩=some (.int .i64 0):=u1.cell 2
      have qf:=u1.free
      have hu1:=u1.lt
      go_wp2_with fail
      refine bodyPost_ret (Fd rfl (((u1.set_ 0 _).set_ 1 _).set_ 2 _)) rfl ⟨_,rfl,?_,((bv.setCell (by simp) _).setCell (by simp) _).setCell (by simp) _⟩
      rw [HRES.out]
      exact DyR.zero_ _ _ _
    · as_aux_lemma =>
      obtain ⟨y,hy⟩:∃ y,y=n / 2 ^ k:=⟨_,rfl⟩
      have HRES := Lib.hid (show nf (sg neg n) d = (sg neg y, d - k) by rw [HVAL.out hn, hy])
      have HODD := Lib.hid (show d - k ≠ 0 → sg neg y % 2 = 1 by
        have h5:=Vh (sg neg n) d
        rw [HRES.out] at h5
        exact h5)
      have HY0 := Lib.hid (show y ≠ 0 by rw [hy]; exact HN2.out hn)
      have hyl:(Ad y).length≤100000:=Nat.le_trans (AX (by rw [hy];exact Nat.div_le_self _ _)) hl
      have hyp:=Co HY0.out
      have e0:(((Ad y).length:Int) == 0)=false:=by rw [beq_eq_false_iff_ne];omega
      clear hn
      go_wp2_with fail
      go_at_call 72
      refine (NZ (X.out.below b0 hm) (by simp;omega) hl (by omega)).mono ?_
      rintro e wv ⟨v5,rfl,Y0,hb5⟩
      have rv:=r0.call hb5
      have bv:=b0.trans (hb5.mono (by simp))
      clear hb5 r0 b0
      rw [←hy] at Y0
      obtain ⟨A5,c5,rfl,g1,g2,g3⟩:=Y0
      obtain ⟨hi5,hhi5⟩:∃ hi5,hi5=wv.heap.size:=⟨_,rfl⟩
      rw [←hhi5] at g3
      clear hy hhi5
      go_wp2_with (at_builtin
                   refine Vq rfl _ _ rfl wv.heap.size _ [] (Ad y) A5 c5 hi5 rfl (Ds.nil_ _ _) rfl g1 g3 (by simp;omega) (Nat.le_refl _) ?_
                   intro v' w4 hown4 hb4
                   rw [List.nil_append] at hown4
                   obtain ⟨A',c',rfl,_,_⟩:=hown4.view
                   have u1:=rv.call hb4
                   have bv4:=bv.trans (hb4.mono (by have:=bv.size;omega))
                   have hsv:=rv.lt
                   have hsz4:=hb4.size
                   clear hb4
                   have q0:w4.cell? ⟨w.heap.size,0,none⟩=some (.bool false):=u1.cell 0
                   have q1:w4.cell? ⟨w.heap.size,1,none⟩=some (.slice none 0 0):=u1.cell 1
                   have q2:w4.cell? ⟨w.heap.size,2,none⟩=some (.int .i64 0):=u1.cell 2
                   have qf:=u1.free
                   have hu1:=u1.lt)
      have hown5:Ds (((w4.setCell ⟨w.heap.size,0,none⟩ (.bool neg)).setCell ⟨w.heap.size,1,none⟩ (.slice A' (Ad y).length c')).setCell ⟨w.heap.size,2,none⟩ (.int .i64 ((d:Int) - (k:Int)))) wv.heap.size (.slice A' (Ad y).length c') (Ad y):=ownsRow_setCell_below (ownsRow_setCell_below (ownsRow_setCell_below hown4 (by simp;omega) _) (by simp;omega) _) (by simp;omega) _
      refine bodyPost_ret (Fd rfl (((u1.set_ 0 _).set_ 1 _).set_ 2 _)) rfl ⟨_,rfl,?_,((bv4.setCell (by simp) _).setCell (by simp) _).setCell (by simp) _⟩
      rw [HRES.out]
      obtain ⟨_,hcl,hn',hc'⟩:=hown5.cap_
      refine ⟨A',c',?_,hn',?_,?_,?_,by show d - k≤65536;omega,?_⟩
      · rw [EP,Se HY0.out]
        have:((d:Int) - (k:Int))=((d - k:Nat):Int):=by omega
        rw [this]
      · rw [EP];exact hcl
      · rw [EP];exact hc'
      · intro a ha
        have:=(World.ownsRow.lt hown5 a.block (by rw [ha];rfl)).1
        have:=bv.size
        omega
      · intro h
        have h5:=HODD.out h
        exact h5
end Go.Proofs.YtmdfjbpggbhgnaaGreatDoor
namespace Go.Proofs.YtmdfjbpggbhgnaaGreatDoor
open Go.RowKit
theorem Vs (m:Int):∀ (k d:Nat),nf (m*2 ^ k) d=if k≤d then nf m (d - k) else (m*2 ^ (k - d),0)
 | 0,d=>by simp
 | k+1,0=>rfl
 | k+1,d+1=>by
  have e1:m*2 ^ (k+1)=2*(m*2 ^ k):=by rw [Int.pow_succ,←Int.mul_assoc,Int.mul_comm]
  have h:nf (m*2 ^ (k+1)) (d+1)=nf (m*2 ^ k) d:=by
   rw [e1]
   show (if (2*(m*2 ^ k)) % 2=0 then nf (2*(m*2 ^ k) / 2) d else _)=_
   rw [if_pos (by omega),show 2*(m*2 ^ k) / 2=m*2 ^ k by omega]
  rw [h,Vs m k d]
  by_cases hk:k≤d
  ·rw [if_pos hk,if_pos (by omega),show d+1 - (k+1)=d - k by omega]
  ·rw [if_neg hk,if_neg (by omega),show k+1 - (d+1)=k - d by omega]
theorem Nd (u:Nat) (w:World) (hu:u<18446744073709551616) :
  Calls Tryz.prog 160 #[.int .u64 (u:Int)] w fun e w'=>∃ v',e=.returned v'∧WdR w' w'.heap.size v' u∧Below w.heap.size w w':=by
 obtain ⟨lo,hlo⟩:∃ lo:Nat,(u:Int) % 4294967296=(lo:Int):=⟨(u % 4294967296:Nat),by omega⟩
 obtain ⟨hi,hhi⟩:∃ hi:Nat,(u:Int) / 4294967296=(hi:Int):=⟨(u / 4294967296:Nat),by omega⟩
 have hib:hi<4294967296:=by omega
 have lob:lo<4294967296:=by omega
 have hval:AO [lo,hi]=u:=by rw [NY];omega
 have HV:=Lib.hid hval
 have c0:Am (w.alloc (.cells #[.int .u32 (lo:Int),.int .u32 (hi:Int)] 126)) (w.heap.size+1) (some ⟨w.heap.size,0,none⟩) (w32 [lo,hi]) :=
  (Bh.new_ w (w32 [lo,hi]) 126).cells_ (by omega)
 have C0:=Lib.hid c0
 clear hval c0
 go_enter Tryz.func160,Tryz.ntmps160
 go_wp2_with fail
 go_at_call 161
 refine (ER (some ⟨w.heap.size,0,none⟩) [lo,hi] 2 (w.heap.size+1) _ C0.out (by simp) (by simp)).mono ?_
 rintro e w3 ⟨rfl,rfl⟩
 go_wp2_with fail
 go_ret
 have hcan:=Cv (AaL lob hib)
 rw [HV.out] at hcan
 refine ⟨_,rfl,⟨some ⟨w.heap.size,0,none⟩,2,by rw [hcan];rfl,by simp,?_,?_⟩,al_ _ _⟩
 ·rw [←hcan,Ci]
  exact Dz _ _
 ·rw [←hcan]
  exact (C0.out.takeW _).more (by simp)
theorem Vt {tmps:Array Value} {w:World} {b:Nat} {v0 v1 v2:Value} (h2:tmps.getD 2 undef=.pointer (some ⟨b,0,none⟩)) (hB:Bh w b [v0,v1,v2] 43) :
  (results Tryz.f68 tmps).run Tryz.prog w=.ok (.agg #[v0,v1,v2]) w:=by
 have k0:=hB.cell 0
 have k1:=hB.cell 1
 have k2:=hB.cell 2
 simp at k0 k1 k2
 simp at h2
 simp [results,Tryz.results68,go_sem,h2,k0,k1,k2]
theorem QW (n:Int) (h1 : -9223372036854775808≤n) (h2:n<9223372036854775808) (w:World) (ht:Ax w) :
  Calls Tryz.prog 68 #[.int .i64 n] w fun e w'=>∃ v',e=.returned v'∧DyR w' w.heap.size w'.heap.size v' n 0∧Below w.heap.size w w':=by
 by_cases h:n<0
 ·as_aux_lemma =>
  obtain ⟨u,hu⟩:∃ u:Nat,-n=(u:Int):=⟨(-n).toNat,by omega⟩
  obtain ⟨vv,hvv⟩:∃ vv:Nat,n+18446744073709551616=(vv:Int):=⟨(n+18446744073709551616).toNat,by omega⟩
  have hu1:IntKind.u64.wrap n=(vv:Int):=by rw [IntKind.wrap_u64];omega
  have hu2:IntKind.u64.wrap (-(vv:Int))=(u:Int):=by rw [IntKind.wrap_u64];omega
  have hsg:sg true u=n:=by unfold sg;simp;omega
  have hub:u<18446744073709551616:=by omega
  have hcl:(Ad u).length≤2:=Bb (by omega)
  have HSG:=Lib.hid hsg
  have HT:=Lib.hid ht
  clear hsg ht hvv hu
  have b0:Below w.heap.size w (w.alloc (.cells #[.bool false,.slice none 0 0,.int .i64 0] 43)):=Aq (Below.refl _ _) _
  have r0:=Bh.new_ w [.bool false,.slice none 0 0,.int .i64 0] 43
  go_enter Tryz.func68,Tryz.ntmps68
  go_wp2_with fail
  go_at_call 160
  refine (Nd u _ hub).mono ?_
  rintro e w1 ⟨v1,rfl,Y,hb1⟩
  have r1:=r0.call hb1
  have b1:=b0.trans (hb1.mono (by simp))
  have hw1:=r1.lt
  have HT1:=HT.out.below b1 HT.out.1
  obtain ⟨A1,L1,c1,rfl⟩:=Y.form
  have Y':=Lib.hid Y
  clear hb1 r0 b0 Y
  go_wp2_with fail
  go_at_call 71
  refine (DX (d:=0) Y'.out (Nat.le_refl _) (by omega) (by omega) HT1).mono ?_
  rintro e w3 ⟨v',rfl,D3,hb3⟩
  rw [HSG.out] at D3
  have D3:DyR w3 (w.heap.size+1) w3.heap.size v' n 0:=D3.low (by omega)
  have u1:=r1.call hb3
  have bv:=b1.trans (hb3.mono (by have:=b1.size;omega))
  obtain ⟨nb3,A3,L3,c3,rfl,_⟩:=D3.form
  have D3':=Lib.hid D3
  clear D3 hb3 r1 b1
  have q0:w3.cell? ⟨w.heap.size,0,none⟩=some (.bool false):=u1.cell 0
  have q1:w3.cell? ⟨w.heap.size,1,none⟩=some (.slice none 0 0):=u1.cell 1
  have q2:w3.cell? ⟨w.heap.size,2,none⟩=some (.int .i64 0):=u1.cell 2
  have qf:=u1.free
  have hu1:=u1.lt
  go_wp2_with fail
  refine bodyPost_ret (Vt rfl (((u1.set_ 0 _).set_ 1 _).set_ 2 _)) rfl ⟨_,rfl,?_,((bv.setCell (by simp) _).setCell (by simp) _).setCell (by simp) _⟩
  exact ((((D3'.out.set_ (by omega) 0 _).set_ (by omega) 1 _).set_ (by omega) 2 _).low (by omega)).more (by simp)
 ·as_aux_lemma =>
  obtain ⟨u,rfl⟩:∃ u:Nat,n=(u:Int):=⟨n.toNat,by omega⟩
  have hsg:sg false u=(u:Int):=by unfold sg;simp
  have hub:u<18446744073709551616:=by omega
  have hcl:(Ad u).length≤2:=Bb (by omega)
  have HSG:=Lib.hid hsg
  have HT:=Lib.hid ht
  clear hsg ht
  have b0:Below w.heap.size w (w.alloc (.cells #[.bool false,.slice none 0 0,.int .i64 0] 43)):=Aq (Below.refl _ _) _
  have r0:=Bh.new_ w [.bool false,.slice none 0 0,.int .i64 0] 43
  go_enter Tryz.func68,Tryz.ntmps68
  go_wp2_with fail
  go_at_call 160
  refine (Nd u _ hub).mono ?_
  rintro e w1 ⟨v1,rfl,Y,hb1⟩
  have r1:=r0.call hb1
  have b1:=b0.trans (hb1.mono (by simp))
  have hw1:=r1.lt
  have HT1:=HT.out.below b1 HT.out.1
  obtain ⟨A1,L1,c1,rfl⟩:=Y.form
  have Y':=Lib.hid Y
  clear hb1 r0 b0 Y
  go_wp2_with fail
  go_at_call 71
  refine (DX (d:=0) Y'.out (Nat.le_refl _) (by omega) (by omega) HT1).mono ?_
  rintro e w3 ⟨v',rfl,D3,hb3⟩
  rw [HSG.out] at D3
  have D3:DyR w3 (w.heap.size+1) w3.heap.size v' (u:Int) 0:=D3.low (by omega)
  have u1:=r1.call hb3
  have bv:=b1.trans (hb3.mono (by have:=b1.size;omega))
  obtain ⟨nb3,A3,L3,c3,rfl,_⟩:=D3.form
  have D3':=Lib.hid D3
  clear D3 hb3 r1 b1
  have q0:w3.cell? ⟨w.heap.size,0,none⟩=some (.bool false):=u1.cell 0
  have q1:w3.cell? ⟨w.heap.size,1,none⟩=some (.slice none 0 0):=u1.cell 1
  have q2:w3.cell? ⟨w.heap.size,2,none⟩=some (.int .i64 0):=u1.cell 2
  have qf:=u1.free
  have hu1:=u1.lt
  go_wp2_with fail
  refine bodyPost_ret (Vt rfl (((u1.set_ 0 _).set_ 1 _).set_ 2 _)) rfl ⟨_,rfl,?_,((bv.setCell (by simp) _).setCell (by simp) _).setCell (by simp) _⟩
  exact ((((D3'.out.set_ (by omega) 0 _).set_ (by omega) 1 _).set_ (by omega) 2 _).low (by omega)).more (by simp)
end Go.Proofs.YtmdfjbpggbhgnaaGreatDoor
namespace Go.Proofs.YtmdfjbpggbhgnaaGreatDoor
open Go.RowKit
theorem Ng {tmps:Array Value} {w:World} {b:Nat} {v0 v1 v2:Value} (h2:tmps.getD 4 undef=.pointer (some ⟨b,0,none⟩)) (hB:Bh w b [v0,v1,v2] 43) :
  (results Tryz.f21 tmps).run Tryz.prog w=.ok (.agg #[v0,v1,v2]) w:=by
 have k0:=hB.cell 0
 have k1:=hB.cell 1
 have k2:=hB.cell 2
 simp at k0 k1 k2
 simp at h2
 simp [results,Tryz.results21,go_sem,h2,k0,k1,k2]
theorem HJ {v:Value} {x:Int} {d lo m:Nat} {n:Int} {w:World} (D:DyR w lo m v x d) (hm:m≤w.heap.size) (hl:(Ad x.natAbs).length≤50000) (hd:(d:Int) - max (-65536) (min n 65536)≤65536) (ht:Ax w) :
    Calls Tryz.prog 21 #[v,.int .i64 n] w fun e w'=>∃ v',e=.returned v'∧DyR w' w.heap.size w'.heap.size v' (Ai x d n).1 (Ai x d n).2∧Below w.heap.size w w':=by
  obtain ⟨nn,hnn⟩:∃ nn:Int,max (-65536) (min n 65536)=nn:=⟨_,rfl⟩
  have hb1 : -65536≤nn:=by omega
  have hb2:nn≤65536:=by omega
  rw [hnn] at hd
  have hdd:=D.bound.1
  by_cases hneg:(d:Int) - nn<0
  · as_aux_lemma =>
    obtain ⟨p,hp⟩:∃ p:Nat,-((d:Int) - nn)=(p:Int):=⟨(nn - d).toNat,by omega⟩
    have HV := Lib.hid (show Ai x d n = (x * 2 ^ p, 0) by
      unfold Ai
      rw [hnn,if_neg (by omega)]
      rw [Vs,if_neg (by omega)]
      congr 3
      omega)
    have hp6:p≤1000000:=by omega
    have hlen:(Ad (x.natAbs*2 ^ p)).length≤100000:=by
      have:=Bz x.natAbs p
      omega
    have hpn:(d:Int) - nn<0:=by omega
    obtain ⟨nb,A,L,c,rfl,HD⟩:=D.form
    have hd6:=D.bound.1
    have D':=Lib.hid D
    have HT:=Lib.hid ht
    have HN:=Lib.hid hnn
    have b0:Below w.heap.size w ((w.alloc (.cells #[.bool nb,.slice A L c,.int .i64 (d:Int)] 43)).alloc (.cells #[.bool false,.slice none 0 0,.int .i64 0] 43)):=Aq (Aq (Below.refl _ _) _) _
    have r0:=Bh.new_ (w.alloc (.cells #[.bool nb,.slice A L c,.int .i64 (d:Int)] 43)) [.bool false,.slice none 0 0,.int .i64 0] 43
    rw [show (w.alloc (.cells #[.bool nb,.slice A L c,.int .i64 (d:Int)] 43)).heap.size=w.heap.size+1 by simp] at r0
    clear D ht
    go_enter Tryz.func21,Tryz.ntmps21
    go_wp2_with fail
    go_at_call 69
    refine (Es (D'.out.below b0 hm) (by simp;omega) (by omega)).mono ?_
    rintro e w1 ⟨nb',A',L',c',he,rfl,hb1⟩
    cases he
    have r1:=r0.call hb1
    have b1:=b0.trans (hb1.mono (by simp;omega))
    have hw1:=r1.lt
    have HT1:=HT.out.below b1 HT.out.1
    have X1:=(D'.out.below b1 hm).words
    clear hb1 r0 b0
    go_wp2_with fail
    go_at_call 70
    refine (QV X1 (by omega) (by omega) hp6).mono ?_
    rintro e w2 ⟨v2,rfl,Y,hb2⟩
    have r2:=r1.call hb2
    have b2:=b1.trans (hb2.mono (by omega))
    have HT2:=HT1.call hb2
    obtain ⟨A2,L2,c2,rfl⟩:=Y.form
    have hw2:=r2.lt
    clear hb2 r1 b1 HT1 X1
    go_wp2_with fail
    go_at_call 71
    refine (DX (d:=0) Y (Nat.le_refl _) hlen (by omega) HT2).mono ?_
    rintro e w3 ⟨v',rfl,D3,hb3⟩
    rw [show nf (sg nb (x.natAbs*2 ^ p)) 0=Ai x d n by rw [HD.out.1,Sf,HV.out];rfl] at D3
    have r1:=r2
    have b1:=b2
    clear r2 b2
    have u1:=r1.call hb3
    have bv:=b1.trans (hb3.mono (by have:=b1.size;omega))
    obtain ⟨nb3,A3,L3,c3,rfl,_⟩:=D3.form
    have D3':=Lib.hid D3
    clear D3 hb3 r1 b1
    have q0:w3.cell? ⟨w.heap.size+1,0,none⟩=some (.bool false):=u1.cell 0
    have q1:w3.cell? ⟨w.heap.size+1,1,none⟩=some (.slice none 0 0):=u1.cell 1
    have q2:w3.cell? ⟨w.heap.size+1,2,none⟩=some (.int .i64 0):=u1.cell 2
    have qf:=u1.free
    have hu1:=u1.lt
    go_wp2_with fail
    refine bodyPost_ret (Ng rfl (((u1.set_ 0 _).set_ 1 _).set_ 2 _)) rfl ⟨_,rfl,?_,((bv.setCell (by simp) _).setCell (by simp) _).setCell (by simp) _⟩
    exact ((((D3'.out.set_ (by omega) 0 _).set_ (by omega) 1 _).set_ (by omega) 2 _).low (by omega)).more (by simp)
  · as_aux_lemma =>
    obtain ⟨p,hp⟩:∃ p:Nat,(d:Int) - nn=(p:Int):=⟨(d - nn).toNat,by omega⟩
    have HV := Lib.hid (show Ai x d n = nf x p by
      unfold Ai
      rw [hnn]
      by_cases h0:nn<0
      · rw [if_pos h0]
        congr 1
        omega
      · rw [if_neg h0,Vs,if_pos (by omega)]
        congr 1
        omega)
    have hp6:p≤65536:=by omega
    have hpn:¬ (d:Int) - nn<0:=by omega
    obtain ⟨nb,A,L,c,rfl,HD⟩:=D.form
    have hd6:=D.bound.1
    have D':=Lib.hid D
    have HT:=Lib.hid ht
    have HN:=Lib.hid hnn
    have b0:Below w.heap.size w ((w.alloc (.cells #[.bool nb,.slice A L c,.int .i64 (d:Int)] 43)).alloc (.cells #[.bool false,.slice none 0 0,.int .i64 0] 43)):=Aq (Aq (Below.refl _ _) _) _
    have r0:=Bh.new_ (w.alloc (.cells #[.bool nb,.slice A L c,.int .i64 (d:Int)] 43)) [.bool false,.slice none 0 0,.int .i64 0] 43
    rw [show (w.alloc (.cells #[.bool nb,.slice A L c,.int .i64 (d:Int)] 43)).heap.size=w.heap.size+1 by simp] at r0
    clear D ht
    go_enter Tryz.func21,Tryz.ntmps21
    go_wp2_with fail
    go_at_call 69
    refine (Es (D'.out.below b0 hm) (by simp;omega) (by omega)).mono ?_
    rintro e w1 ⟨nb',A',L',c',he,rfl,hb1⟩
    cases he
    have r1:=r0.call hb1
    have b1:=b0.trans (hb1.mono (by simp;omega))
    have hw1:=r1.lt
    have HT1:=HT.out.below b1 HT.out.1
    have X1:=(D'.out.below b1 hm).words
    clear hb1 r0 b0
    go_wp2_with fail
    go_at_call 71
    refine (DX (d:=p) X1 (by omega) (by omega) hp6 HT1).mono ?_
    rintro e w3 ⟨v',rfl,D3,hb3⟩
    rw [show nf (sg nb x.natAbs) p=Ai x d n by rw [HD.out.1,NW,HV.out]] at D3
    have u1:=r1.call hb3
    have bv:=b1.trans (hb3.mono (by have:=b1.size;omega))
    obtain ⟨nb3,A3,L3,c3,rfl,_⟩:=D3.form
    have D3':=Lib.hid D3
    clear D3 hb3 r1 b1
    have q0:w3.cell? ⟨w.heap.size+1,0,none⟩=some (.bool false):=u1.cell 0
    have q1:w3.cell? ⟨w.heap.size+1,1,none⟩=some (.slice none 0 0):=u1.cell 1
    have q2:w3.cell? ⟨w.heap.size+1,2,none⟩=some (.int .i64 0):=u1.cell 2
    have qf:=u1.free
    have hu1:=u1.lt
    go_wp2_with fail
    refine bodyPost_ret (Ng rfl (((u1.set_ 0 _).set_ 1 _).set_ 2 _)) rfl ⟨_,rfl,?_,((bv.setCell (by simp) _).setCell (by simp) _).setCell (by simp) _⟩
    exact ((((D3'.out.set_ (by omega) 0 _).set_ (by omega) 1 _).set_ (by omega) 2 _).low (by omega)).more (by simp)
end Go.Proofs.YtmdfjbpggbhgnaaGreatDoor
namespace Go.Proofs.YtmdfjbpggbhgnaaGreatDoor
open Go.RowKit
theorem Px (x y c:Nat) (w:World) (hx:x<4294967296) (hy:y<4294967296) (hc:c≤1) :
  Calls Tryz.prog 164 #[.int .u32 (x:Int),.int .u32 (y:Int),.int .u32 (c:Int)] w fun e w'=>e=.returned (.tuple #[.int .u32 (((x+y+c) % 4294967296:Nat):Int),.int .u32 (((x+y+c) / 4294967296:Nat):Int)])∧w=w':=by
 have h1:(x:Int) % 18446744073709551616=(x:Int):=by omega
 have h2:(y:Int) % 18446744073709551616=(y:Int):=by omega
 have h3:(c:Int) % 18446744073709551616=(c:Int):=by omega
 obtain ⟨s,hs⟩:∃ s:Nat,(x:Int)+(y:Int)+(c:Int)=(s:Int):=⟨x+y+c,by omega⟩
 have hs2:x+y+c=s:=by omega
 have hsb:s<8589934592:=by omega
 rw [hs2]
 go_enter Tryz.func164,Tryz.ntmps164
 go_wp2_with fail
 refine bodyPost_ret (v:=.tuple #[.int .u32 ((s % 4294967296:Nat):Int),.int .u32 ((s / 4294967296:Nat):Int)]) ?_ rfl ⟨rfl,rfl⟩
 simp [results,Tryz.results164,go_sem]
def AfE (w:World) (a b:List Nat) (g L:Nat) (cv i:Value) (wr:World):Prop :=
 ∃ (k:Nat) (os:List Nat) (cy:Nat),k≤L∧i=.int .i64 (k:Int)∧cv=.int .u32 (cy:Int)∧Ds wr w.heap.size (.slice (some ⟨g,0,none⟩) L L) (os++List.replicate (L - k) 0)∧os.length=k∧Az os∧cy≤1 ∧
  AO os+4294967296 ^ k*cy=AO (a.take k)+AO (b.take k)∧Below w.heap.size w wr
theorem AdD {a b os:List Nat} {L cy:Nat} (ha:Az a) (hb:Az b) (hL:L=max a.length b.length+1) (hol:os.length=L) (hv:AO os+4294967296 ^ L*cy=AO (a.take L)+AO (b.take L)):AO os=AO a+AO b:=by
 rw [List.take_of_length_le (by omega),List.take_of_length_le (by omega)] at hv
 have h1:=BV ha
 have h2:=BV hb
 have p1:4294967296 ^ a.length≤4294967296 ^ (max a.length b.length):=Nat.pow_le_pow_right (by decide) (by omega)
 have p2:4294967296 ^ b.length≤4294967296 ^ (max a.length b.length):=Nat.pow_le_pow_right (by decide) (by omega)
 have p3:4294967296 ^ L=4294967296*4294967296 ^ (max a.length b.length):=by rw [hL,Nat.pow_succ,Nat.mul_comm]
 rcases Nat.eq_zero_or_pos cy with h|h
 ·rw [h] at hv;omega
 ·have:4294967296 ^ L*1≤4294967296 ^ L*cy:=Nat.mul_le_mul_left _ h
  omega
theorem Yh (A B:Option Addr) (a b:List Nat) (c1 c2 m:Nat) (w:World) (hm:m≤w.heap.size) (h1:Am w m A (w32 a)) (h2:Am w m B (w32 b)) (ha:Az a) (hb:Az b) (l1:a.length≤90000) (l2:b.length≤90000) :
  Calls Tryz.prog 73 #[.slice A a.length c1,.slice B b.length c2] w fun e w' =>
   ∃ G g,e=.returned (.slice G (Ad (AO a+AO b)).length g)∧(G=none→g=0)∧(Ad (AO a+AO b)).length≤g∧Am w' w'.heap.size G (w32 (Ad (AO a+AO b)))∧Below w.heap.size w w':=by
 have H1:=Lib.hid h1
 have H2:=Lib.hid h2
 have HA:=Lib.hid ha
 have HB:=Lib.hid hb
 obtain ⟨L,hL⟩:∃ L,L=max a.length b.length+1:=⟨_,rfl⟩
 have hLi:max (a.length:Int) (b.length:Int)+1=(L:Int):=by omega
 have hL6:L≤100000:=by omega
 have HL:=Lib.hid hL
 obtain ⟨i0,hi,hz0,hz1,hz2⟩:=info_parts NV
 clear h1 h2 ha hb hL
 go_enter Tryz.func73,Tryz.ntmps73
 go_wp2_with (with_reducible refine wpList_make_full _ rfl (.tmp 13) (.tmp 13) 112 rfl w.heap.size 126 i0 (.int .u32 0) 1 FF hi hz0 hz1 .i64 .i64 _ _ L rfl rfl rfl rfl (by rw [hz2];omega) (by unfold maxLen;omega) (Nat.le_refl _) ?_;intro w2 hown hg)
 have hst:=(Below.refl w.heap.size w).grown hg (Nat.le_refl _) (fun k h=>by simp at h)
 have hown2:=Vn hown
 obtain ⟨g,hg1⟩:∃ g,g=w.heap.size:=⟨_,rfl⟩
 have hgw:=Lib.hid hg1
 rw [←hg1]
 rw [show Ds w2 w.heap.size (.slice (some ⟨w.heap.size,0,none⟩) L L) (List.replicate L 0)=Ds w2 w.heap.size (.slice (some ⟨g,0,none⟩) L L) (List.replicate L 0) by rw [hg1]] at hown2
 clear hown hg hi hz0 hz1 hz2 hg1
 go_loopw [6,17] (fun cv i wr=>AfE w a b g L cv i wr) (fun _ i _=>L - (intOf i).toNat)
 case atStart=>exact ⟨0,[],0,Nat.zero_le _,rfl,rfl,by simpa using hown2,rfl,by simp [Az],by omega,by simp [AO],hst⟩
 case round =>
  obtain ⟨k,os,cy,hk,rfl,rfl,hown,hol,hok,hcy,hv,hb⟩:=hrel
  have HO:=Lib.hid hown
  have HOL:=Lib.hid hol
  have HOK:=Lib.hid hok
  have HV:=Lib.hid hv
  have hsz:=hb.size
  have hlen:=Lib.hid (show L=(os++List.replicate (L - k) 0).length by simp;omega)
  clear hown hol hok hv hown2 hst
  by_cases hlt:k<L
  ·obtain ⟨x,hx⟩:∃ x,x=a[k]?.getD 0:=⟨_,rfl⟩
   obtain ⟨y,hy⟩:∃ y,y=b[k]?.getD 0:=⟨_,rfl⟩
   have bx:x<4294967296:=by
    rw [hx]
    by_cases h:k<a.length
    ·rw [List.getElem?_eq_getElem h];exact HA.out _ (List.getElem_mem h)
    ·rw [List.getElem?_eq_none (by omega)];decide
   have by':y<4294967296:=by
    rw [hy]
    by_cases h:k<b.length
    ·rw [List.getElem?_eq_getElem h];exact HB.out _ (List.getElem_mem h)
    ·rw [List.getElem?_eq_none (by omega)];decide
   have hat1:=Sg A a c1 k m wr (H1.out.below hb hm) (by omega) (by omega)
   have hat2:=Sg B b c2 k m wr (H2.out.below hb hm) (by omega) (by omega)
   rw [←hx] at hat1
   rw [←hy] at hat2
   have hadd:=Px x y cy wr bx by' hcy
   obtain ⟨z,hz⟩:∃ z,z=(x+y+cy) % 4294967296:=⟨_,rfl⟩
   obtain ⟨c',hc'⟩:∃ c',c'=(x+y+cy) / 4294967296:=⟨_,rfl⟩
   rw [←hz,←hc'] at hadd
   have HZ:=Lib.hid (show z+4294967296*c'=cy+x+y by omega)
   have HZB:=Lib.hid (show z<4294967296 by omega)
   have HCB:=Lib.hid (show c'≤1 by omega)
   have HAT1:=Lib.hid hat1
   have HAT2:=Lib.hid hat2
   have HADD:=Lib.hid hadd
   have HX:=Lib.hid hx.symm
   have HY:=Lib.hid hy.symm
   have hkl':(k:Int)<(L:Int):=by omega
   have f1:wr.cell? ⟨g,k,none⟩=some (.int .u32 0):=by
    have:=HO.out.cellA (j:=k) (z:=0) (by rw [List.getElem?_append_right (by rw [HOL.out];omega),HOL.out,Nat.sub_self];rw [List.getElem?_replicate];simp;omega)
    simpa using this
   have f2:∀ j,wr.frozen? ⟨g,j,none⟩=false:=fun j=>HO.out.freeA hlen.out j
   clear hx hy hz hc' hat1 hat2 hadd
   go_wp2_with fail
   go_at_call 163
   refine HAT1.out.mono ?_
   rintro e wq ⟨rfl,rfl⟩
   go_wp2_with fail
   go_at_call 163
   refine HAT2.out.mono ?_
   rintro e wq ⟨rfl,rfl⟩
   go_wp2_with fail
   go_at_call 164
   refine HADD.out.mono ?_
   rintro e wq ⟨rfl,rfl⟩
   go_wp2_with fail
   refine ⟨⟨k+1,os++[z],c',by omega,by go_num,rfl,?_,by rw [List.length_append,HOL.out];rfl,BS HOK.out HZB.out,HCB.out,NT HOL.out HX.out HY.out HV.out HZ.out,hb.setCell (by have:=hgw.out;simp;omega) _⟩,by simp [intOf];omega⟩
   have h5:=HO.out.put hlen.out k z
   rw [Vo HOL.out hlt] at h5
   exact h5
  ·have hkL:k=L:=by omega
   have hle:¬ (k:Int)<(L:Int):=by omega
   have hO:=HO.out
   rw [hkL,Nat.sub_self,List.replicate_zero,List.append_nil] at hO
   have hol:=HOL.out.trans hkL
   have hL6':os.length≤1000000:=by omega
   have HWV:=Lib.hid (AdD HA.out HB.out HL.out hol (by have:=HV.out;rw [hkL] at this;exact this))
   have HGC:=Lib.hid hO.cap_.2.2.2
   have hcall:=ER (some ⟨g,0,none⟩) os os.length wr.heap.size wr HGC.out (Nat.le_refl _) hL6'
   rw [hol] at hcall
   have HCALL:=Lib.hid hcall
   clear hkL hol hO hcall
   go_wp2_with (go_at_call 161;refine HCALL.out.mono ?_;rintro e w3 ⟨rfl,rfl⟩)
   go_ret
   have hcan:=Cv HOK.out
   rw [HWV.out] at hcan
   refine ⟨some ⟨g,0,none⟩,L,by rw [hcan];rfl,by simp,?_,?_,hb⟩
   ·rw [←hcan,Ci]
    have:=Dz os os.length
    have:=HOL.out
    omega
   ·rw [←hcan]
    exact HGC.out.takeW _
end Go.Proofs.YtmdfjbpggbhgnaaGreatDoor
namespace Go.Proofs.YtmdfjbpggbhgnaaGreatDoor
open Go.RowKit
def AfF (w:World) (a:List Nat) (u i:Value) (wr:World):Prop:=∃ k:Nat,k≤a.length∧i=.int .i64 ((k:Int) - 1)∧u=.int .u64 (AO (a.drop k):Int)∧w=wr
theorem Vu (A:Option Addr) (a:List Nat) (c m:Nat) (w:World) (h:Am w m A (w32 a)) (ha:Az a) (hl:a.length≤2) :
  Calls Tryz.prog 249 #[.slice A a.length c] w fun e w'=>e=.returned (.int .u64 (AO a:Int))∧w=w':=by
 have H:=Lib.hid h
 have HA:=Lib.hid ha
 clear h ha
 go_enter Tryz.func249,Tryz.ntmps249
 go_wp2_with fail
 go_loopw [3,4] (fun u i wr=>AfF w a u i wr) (fun _ i _=>(intOf i+1).toNat)
 case atStart=>exact ⟨a.length,Nat.le_refl _,by go_num,by simp [AO],rfl⟩
 case round =>
  obtain ⟨k,hk,rfl,rfl,rfl⟩:=hrel
  by_cases hk0:k=0
  ·subst hk0
   have e:((0:Nat):Int) - 1 = -1:=rfl
   rw [e,List.drop_zero]
   go_wp2_with fail
   go_ret
   exact ⟨rfl,rfl⟩
  ·obtain ⟨j,rfl⟩:∃ j,k=j+1:=⟨k - 1,by omega⟩
   have e:((j+1:Nat):Int) - 1=(j:Int):=by omega
   rw [e]
   have hj:j<a.length:=by omega
   obtain ⟨b1,o1,x,rfl,q1,_,hx,g1⟩:=H.out.w32_ hj
   have bx:=HA.out x (List.mem_of_getElem? hx)
   obtain ⟨mm,hm⟩:∃ mm,mm=AO (a.drop (j+1)):=⟨_,rfl⟩
   have bm:mm<4294967296:=by
    have h1:=BV (ws:=a.drop (j+1)) (fun z hz=>HA.out z (List.mem_of_mem_drop hz))
    have h2:(a.drop (j+1)).length≤1:=by simp;omega
    have h3:4294967296 ^ (a.drop (j+1)).length≤4294967296 ^ 1:=Nat.pow_le_pow_right (by decide) h2
    omega
   have hd:AO (a.drop j)=x+4294967296*mm:=by
    rw [hm,List.drop_eq_getElem_cons hj]
    have:a[j]=x:=by rw [List.getElem?_eq_getElem hj] at hx;simpa using hx
    rw [this]
    rfl
   rw [←hm]
   have HD:=Lib.hid hd
   have w3:IntKind.u64.wrap ((mm:Int)*4294967296)=(mm:Int)*4294967296:=by rw [IntKind.wrap_u64];omega
   obtain ⟨s,hs⟩:∃ s,s=x+4294967296*mm:=⟨_,rfl⟩
   have hor:bits .or .u64 ((mm:Int)*4294967296) (x:Int)=(s:Int):=by rw [hs];exact Adx bm bx
   have HS:=Lib.hid hs
   have hji:(j:Int)<(a.length:Int):=by omega
   clear hx hm hd hs hk0 e
   go_wp2_with fail
   exact ⟨⟨j,by omega,by go_num,by rw [HD.out,←HS.out],rfl⟩,by simp [intOf]⟩
end Go.Proofs.YtmdfjbpggbhgnaaGreatDoor
namespace Go.Proofs.YtmdfjbpggbhgnaaGreatDoor
open Go.RowKit
def TP (x:Int):Bool:=decide (-9223372036854775808≤x∧x<9223372036854775808)
def AdE (x:Int):Int:=if TP x=true then x else 0
theorem Si {x:Int} (h:¬ (-9223372036854775808≤x∧x<9223372036854775808)):TP x=false∧AdE x=0:=by
 have h1:TP x=false:=decide_eq_false h
 exact ⟨h1,by unfold AdE;rw [h1];rfl⟩
theorem LQ {x:Int} (h : -9223372036854775808≤x∧x<9223372036854775808):TP x=true∧AdE x=x:=by
 have h1:TP x=true:=decide_eq_true h
 exact ⟨h1,by unfold AdE;rw [h1];rfl⟩
theorem Yi {v:Value} {x:Int} {d lo m:Nat} {w:World} (D:DyR w lo m v x d) (hd0:d=0) (hm:m≤w.heap.size) (hl:(Ad x.natAbs).length≤50000) :
  Calls Tryz.prog 210 #[v] w fun e w'=>e=.returned (.tuple #[.int .i64 (AdE x),.bool (TP x)])∧Below w.heap.size w w':=by
 obtain ⟨nb,A,L,c,rfl,HD⟩:=D.form
 have D':=Lib.hid D
 have b0:Below w.heap.size w (w.alloc (.cells #[.bool nb,.slice A L c,.int .i64 (d:Int)] 43)):=Aq (Below.refl _ _) _
 have hL:L=(Ad x.natAbs).length:=HD.out.2.1
 have HNB:=Lib.hid HD.out.1
 have HL:=Lib.hid hL
 have hdi:decide ((0:Int)<(d:Int))=false:=decide_eq_false (by omega)
 have hdz:¬ (0:Int)<(d:Int):=by omega
 clear D hd0 hL
 go_enter Tryz.func210,Tryz.ntmps210
 go_wp2_with fail
 go_at_call 69
 refine (Es (D'.out.below b0 hm) (by simp;omega) (by omega)).mono ?_
 rintro e w1 ⟨nb',A',L',c',he,rfl,hb1⟩
 cases he
 have hL:=HL.out
 have b1:=b0.trans (hb1.mono (by simp))
 have X:=HD.out.2.2.2.2.1.below b1 hm
 obtain ⟨n,hn⟩:∃ n,n=x.natAbs:=⟨_,rfl⟩
 rw [←hn] at hL HL hl X
 have HX:=Lib.hid X
 have HN:=Lib.hid hn
 have HB:=Lib.hid b1
 clear X hn HD D' b0 hb1 b1
 by_cases hbig:2<L
 ·have hx:¬ (-9223372036854775808≤x∧x<9223372036854775808):=by
   intro h
   have:(Ad n).length≤2:=Bb (by have:=HN.out;omega)
   omega
  have HV:=Lib.hid (Si hx)
  have hbi:(2:Int)<(L:Int):=by omega
  clear hx hL
  go_wp2_with fail
  exact bodyPost_ret (v:=.tuple #[.int .i64 0,.bool false]) (by simp [results,Tryz.results210,go_sem]) rfl ⟨by rw [HV.out.1,HV.out.2],HB.out⟩
 ·have hbi:decide ((2:Int)<(L:Int))=false:=decide_eq_false (by omega)
  have hpu:=Vu A (Ad n) c m w1 HX.out (AV n) (by omega)
  rw [←hL,AE] at hpu
  have hn64:n<18446744073709551616:=by
   have h1:=BV (AV n)
   rw [AE] at h1
   have h3:4294967296 ^ (Ad n).length≤4294967296 ^ 2:=Nat.pow_le_pow_right (by decide) (by omega)
   omega
  have HPU:=Lib.hid hpu
  have hbn:¬ (2:Int)<(L:Int):=by omega
  have hbl:(L:Int)≤2:=by omega
  clear hpu hL hbig
  go_wp2_with fail
  go_at_call 249
  refine HPU.out.mono ?_
  rintro e wq ⟨rfl,rfl⟩
  cases nb with
  | true =>
   have hx:x<0:=by simpa using HNB.out.symm
   by_cases h63:n≤9223372036854775808
   ·have HV:=Lib.hid (LQ (x:=x) (by have:=HN.out;omega))
    have hd:decide ((n:Int)≤9223372036854775808)=true:=decide_eq_true (by omega)
    have hxe:x = -(n:Int):=by have:=HN.out;omega
    have hmp:(1:Int)≤(n:Int):=by omega
    have HXE:=Lib.hid hxe
    clear hx hxe
    go_wp2_with fail
    exact bodyPost_ret (v:=.tuple #[.int .i64 x,.bool true]) (by simp [results,Tryz.results210,go_sem];rw [HXE.out];first|(rw [IntKind.wrap_u64];unfold wrap64;omega)|(show IntKind.i64.wrap _=_;rw [IntKind.wrap_u64,IntKind.wrap_i64];omega)) rfl ⟨by rw [HV.out.1,HV.out.2],HB.out⟩
   ·have HV:=Lib.hid (Si (x:=x) (by have:=HN.out;omega))
    have hd:decide ((n:Int)≤9223372036854775808)=false:=decide_eq_false (by omega)
    clear hx
    go_wp2_with fail
    exact bodyPost_ret (v:=.tuple #[.int .i64 0,.bool false]) (by simp [results,Tryz.results210,go_sem]) rfl ⟨by rw [HV.out.1,HV.out.2],HB.out⟩
  | false =>
   have hx:0≤x:=by simpa using HNB.out.symm
   by_cases h63:n<9223372036854775808
   ·have HV:=Lib.hid (LQ (x:=x) (by have:=HN.out;omega))
    have hd:decide ((n:Int)<9223372036854775808)=true:=decide_eq_true (by omega)
    have hxe:x=(n:Int):=by have:=HN.out;omega
    have HXE:=Lib.hid hxe
    clear hx hxe
    go_wp2_with fail
    exact bodyPost_ret (v:=.tuple #[.int .i64 x,.bool true]) (by simp [results,Tryz.results210,go_sem];rw [HXE.out]) rfl ⟨by rw [HV.out.1,HV.out.2],HB.out⟩
   ·have HV:=Lib.hid (Si (x:=x) (by have:=HN.out;omega))
    have hd:decide ((n:Int)<9223372036854775808)=false:=decide_eq_false (by omega)
    clear hx
    go_wp2_with fail
    exact bodyPost_ret (v:=.tuple #[.int .i64 0,.bool false]) (by simp [results,Tryz.results210,go_sem]) rfl ⟨by rw [HV.out.1,HV.out.2],HB.out⟩
end Go.Proofs.YtmdfjbpggbhgnaaGreatDoor
namespace Go.Proofs.YtmdfjbpggbhgnaaGreatDoor
open Go.RowKit
theorem AdF {v v2:Value} {a b m:Nat} {w:World} (h:WdR w m v a) (h2:WdR w m v2 b) (hm:m≤w.heap.size) (l1:(Ad a).length≤90000) (l2:(Ad b).length≤90000) :
  Calls Tryz.prog 73 #[v,v2] w fun e w'=>∃ v',e=.returned v'∧WdR w' w'.heap.size v' (a+b)∧Below w.heap.size w w':=by
 obtain ⟨A,c,rfl,_,_,h3⟩:=h
 obtain ⟨B,c',rfl,_,_,h4⟩:=h2
 have hc:=Yh A B (Ad a) (Ad b) c c' m w hm h3 h4 (AV a) (AV b) l1 l2
 rw [AE,AE] at hc
 refine hc.mono ?_
 rintro e w' ⟨G,g,rfl,hG,hg,hC,hb⟩
 exact ⟨_,rfl,⟨G,g,rfl,hG,hg,hC⟩,hb⟩
theorem AdG {x:Int} {k:Nat} (hx:x % 2=1) (hk:0<k):Lh x.natAbs k=true:=by
 unfold Lh
 refine decide_eq_true ?_
 intro h0
 obtain ⟨j,rfl⟩:∃ j,k=j+1:=⟨k - 1,by omega⟩
 have h1:2 ∣ x.natAbs:=Nat.dvd_trans ⟨2 ^ j,by rw [Nat.pow_succ,Nat.mul_comm]⟩ (Nat.dvd_of_mod_eq_zero h0)
 omega
theorem Gg:Ad 1=[1]:=by rw [CQ (by decide),show 1 / 4294967296=0 by decide,AP]
theorem Hf:(Ad 1).length=1:=by rw [Gg];rfl
theorem Vv (w:World):WdR (w.alloc (.cells #[.int .u32 1] 126)) (w.heap.size+1) (.slice (some ⟨w.heap.size,0,none⟩) 1 1) 1 :=
 ⟨some ⟨w.heap.size,0,none⟩,1,by rw [Gg];rfl,by simp,by rw [Gg];decide,by
  rw [Gg]
  exact (Bh.new_ w [.int .u32 1] 126).cells_ (Nat.lt_succ_self _)⟩
theorem Ia {tmps:Array Value} {w:World} {b:Nat} {v0 v1 v2 v5:Value} (h2:tmps.getD 4 undef=.pointer (some ⟨b,0,none⟩)) (h5:tmps.getD 5 undef=v5) (hB:Bh w b [v0,v1,v2] 43) :
  (results Tryz.f22 tmps).run Tryz.prog w=.ok (.tuple #[.agg #[v0,v1,v2],v5]) w:=by
 have k0:=hB.cell 0
 have k1:=hB.cell 1
 have k2:=hB.cell 2
 simp at k0 k1 k2
 simp at h2 h5
 simp [results,Tryz.results22,go_sem,h2,h5,k0,k1,k2]
theorem Nh {v:Value} {x:Int} {d lo m den:Nat} {w:World} (D:DyR w lo m v x d) (hm:m≤w.heap.size) (hl:(Ad x.natAbs).length≤50000) (hden:den≤65536) (ht:Ax w) :
  Calls Tryz.prog 22 #[v,.int .i64 (den:Int)] w fun e w'=>∃ v',e=.returned (.tuple #[v',.nilIface])∧DyR w' w.heap.size w'.heap.size v' (BO x d den).1 (BO x d den).2∧Below w.heap.size w w':=by
 have n1:decide ((den:Int)<0)=false:=decide_eq_false (by omega)
 have n2:decide ((65536:Int)<(den:Int))=false:=decide_eq_false (by omega)
 have n3:¬ (den:Int)<0:=by omega
 have n4:¬ (65536:Int)<(den:Int):=by omega
 have hdr:=D.bound
 have hd6:=hdr.1
 have HDR:=Lib.hid hdr.2
 clear hdr
 by_cases hle:d≤den
 ·as_aux_lemma =>
  have HV:=Lib.hid (show BO x d den=(x,d) from if_pos hle)
  have n5:(d:Int)≤(den:Int):=by omega
  obtain ⟨nb,A,L,c,rfl,HD⟩:=D.form
  have D':=Lib.hid D
  have HT:=Lib.hid ht
  clear D ht
  have b0:Below w.heap.size w ((w.alloc (.cells #[.bool nb,.slice A L c,.int .i64 (d:Int)] 43)).alloc (.cells #[.bool false,.slice none 0 0,.int .i64 0] 43)):=Aq (Aq (Below.refl _ _) _) _
  have r0:=Bh.new_ (w.alloc (.cells #[.bool nb,.slice A L c,.int .i64 (d:Int)] 43)) [.bool false,.slice none 0 0,.int .i64 0] 43
  rw [show (w.alloc (.cells #[.bool nb,.slice A L c,.int .i64 (d:Int)] 43)).heap.size=w.heap.size+1 by simp] at r0
  go_enter Tryz.func22,Tryz.ntmps22
  go_wp2_with fail
  go_at_call 69
  refine (Es (D'.out.below b0 hm) (by simp;omega) (by omega)).mono ?_
  rintro e w1 ⟨nb',A',L',c',he,rfl,hb1⟩
  cases he
  have r1:=r0.call hb1
  have b1:=b0.trans (hb1.mono (by simp;omega))
  have hw1:=r1.lt
  have HT1:=HT.out.below b1 HT.out.1
  have X1:=(D'.out.below b1 hm).words
  clear hb1 r0 b0
  go_wp2_with fail
  go_at_call 71
  refine (DX (d:=d) X1 (by omega) (by omega) hd6 HT1).mono ?_
  rintro e w3 ⟨v',rfl,D3,hb3⟩
  rw [HD.out.1,NW,Ep HDR.out,←HV.out] at D3
  have u1:=r1.call hb3
  have bv:=b1.trans (hb3.mono (by have:=b1.size;omega))
  obtain ⟨nb3,A3,L3,c3,rfl,_⟩:=D3.form
  have D3':=Lib.hid D3
  clear D3 hb3 r1 b1
  have q0:w3.cell? ⟨w.heap.size+1,0,none⟩=some (.bool false):=u1.cell 0
  have q1:w3.cell? ⟨w.heap.size+1,1,none⟩=some (.slice none 0 0):=u1.cell 1
  have q2:w3.cell? ⟨w.heap.size+1,2,none⟩=some (.int .i64 0):=u1.cell 2
  have qf:=u1.free
  have hu1:=u1.lt
  go_wp2_with fail
  refine bodyPost_ret (Ia rfl rfl (((u1.set_ 0 _).set_ 1 _).set_ 2 _)) rfl ⟨_,rfl,?_,((bv.setCell (by simp) _).setCell (by simp) _).setCell (by simp) _⟩
  exact ((((D3'.out.set_ (by omega) 0 _).set_ (by omega) 1 _).set_ (by omega) 2 _).low (by omega)).more (by simp)
 ·as_aux_lemma =>
  have n5:¬ (d:Int)≤(den:Int):=by omega
  obtain ⟨k,hk⟩:∃ k:Nat,k=d - den:=⟨_,rfl⟩
  have HV:=Lib.hid (show BO x d den=nf (x / 2 ^ k) den by rw [hk];exact if_neg hle)
  have n6:(d:Int) - (den:Int)=(k:Int):=by omega
  have hk6:k≤1000000:=by omega
  have HC:=Lib.hid (AdG (x:=x) (k:=k) (HDR.out (by omega)) (by omega))
  have hln:(Ad (x.natAbs / 2 ^ k)).length≤50000:=Nat.le_trans (AX (Nat.div_le_self _ _)) hl
  have hln1:(Ad (x.natAbs / 2 ^ k+1)).length≤100000:=by
   have h1:=DA (x.natAbs / 2 ^ k) 1
   have h2:=Hf
   omega
  clear hk
  obtain ⟨nb,A,L,c,rfl,HD⟩:=D.form
  have D':=Lib.hid D
  have HT:=Lib.hid ht
  clear D ht
  have b0:Below w.heap.size w ((w.alloc (.cells #[.bool nb,.slice A L c,.int .i64 (d:Int)] 43)).alloc (.cells #[.bool false,.slice none 0 0,.int .i64 0] 43)):=Aq (Aq (Below.refl _ _) _) _
  have r0:=Bh.new_ (w.alloc (.cells #[.bool nb,.slice A L c,.int .i64 (d:Int)] 43)) [.bool false,.slice none 0 0,.int .i64 0] 43
  rw [show (w.alloc (.cells #[.bool nb,.slice A L c,.int .i64 (d:Int)] 43)).heap.size=w.heap.size+1 by simp] at r0
  go_enter Tryz.func22,Tryz.ntmps22
  go_wp2_with fail
  go_at_call 69
  refine (Es (D'.out.below b0 hm) (by simp;omega) (by omega)).mono ?_
  rintro e w1 ⟨nb',A',L',c',he,rfl,hb1⟩
  cases he
  have r1:=r0.call hb1
  have b1:=b0.trans (hb1.mono (by simp;omega))
  have hw1:=r1.lt
  have HT1:=HT.out.below b1 HT.out.1
  have X1:=(D'.out.below b1 hm).words
  clear hb1 r0 b0
  go_wp2_with fail
  go_at_call 72
  refine (NZ X1 (by omega) (by omega) hk6).mono ?_
  rintro e w2 ⟨v2,rfl,Y,hb2⟩
  have r2:=r1.call hb2
  have b2:=b1.trans (hb2.mono (by have:=b1.size;omega))
  have HT2:=HT1.call hb2
  obtain ⟨A2,L2,c2,rfl⟩:=Y.form
  have hw2:=r2.lt
  clear hb2 r1 b1 HT1
  have hnb:=HD.out.1
  cases nb with
  | false =>
   as_aux_lemma =>
   have hx:0≤x:=by simpa using hnb.symm
   have HX:=Lib.hid hx
   clear hnb hx
   go_wp2_with fail
   go_at_call 71
   refine (DX (d:=den) Y (Nat.le_refl _) (by omega) hden HT2).mono ?_
   rintro e w3 ⟨v',rfl,D3,hb3⟩
   rw [ZS HX.out,←HV.out] at D3
   have u1:=r2.call hb3
   have bv:=b2.trans (hb3.mono (by have:=b2.size;omega))
   obtain ⟨nb3,A3,L3,c3,rfl,_⟩:=D3.form
   have D3':=Lib.hid D3
   clear D3 hb3 r2 b2
   have q0:w3.cell? ⟨w.heap.size+1,0,none⟩=some (.bool false):=u1.cell 0
   have q1:w3.cell? ⟨w.heap.size+1,1,none⟩=some (.slice none 0 0):=u1.cell 1
   have q2:w3.cell? ⟨w.heap.size+1,2,none⟩=some (.int .i64 0):=u1.cell 2
   have qf:=u1.free
   have hu1:=u1.lt
   go_wp2_with fail
   refine bodyPost_ret (Ia rfl rfl (((u1.set_ 0 _).set_ 1 _).set_ 2 _)) rfl ⟨_,rfl,?_,((bv.setCell (by simp) _).setCell (by simp) _).setCell (by simp) _⟩
   exact ((((D3'.out.set_ (by omega) 0 _).set_ (by omega) 1 _).set_ (by omega) 2 _).low (by omega)).more (by simp)
  | true =>
   as_aux_lemma =>
   have hx:x<0:=by simpa using hnb.symm
   have HX:=Lib.hid hx
   clear hnb hx
   have BA:=al_ w2 (.cells #[.int .u32 1] 126)
   have r4:=r2.call BA
   have b4:=b2.trans (BA.mono (by have:=b2.size;omega))
   have HT4:=HT2.call BA
   have Y4:=(Y.below BA (Nat.le_refl _)).more (show w2.heap.size≤w2.heap.size+1 by omega)
   have O4:=Vv w2
   clear BA Y r2 b2 HT2
   go_wp2_with fail
   go_at_call 73
   refine (AdF Y4 O4 (by simp) (by omega) (by rw [Hf];decide)).mono ?_
   rintro e w5 ⟨v5,rfl,Z,hb5⟩
   have r5:=r4.call hb5
   have b5:=b4.trans (hb5.mono (by have:=b4.size;omega))
   have HT5:=HT4.call hb5
   obtain ⟨A5,L5,c5,rfl⟩:=Z.form
   have hw5:=r5.lt
   clear hb5 r4 b4 HT4
   go_wp2_with fail
   go_at_call 71
   refine (DX (d:=den) Z (Nat.le_refl _) (by omega) hden HT5).mono ?_
   rintro e w3 ⟨v',rfl,D3,hb3⟩
   rw [Nc HX.out HC.out,←HV.out] at D3
   have u1:=r5.call hb3
   have bv:=b5.trans (hb3.mono (by have:=b5.size;omega))
   obtain ⟨nb3,A3,L3,c3,rfl,_⟩:=D3.form
   have D3':=Lib.hid D3
   clear D3 hb3 r5 b5
   have q0:w3.cell? ⟨w.heap.size+1,0,none⟩=some (.bool false):=u1.cell 0
   have q1:w3.cell? ⟨w.heap.size+1,1,none⟩=some (.slice none 0 0):=u1.cell 1
   have q2:w3.cell? ⟨w.heap.size+1,2,none⟩=some (.int .i64 0):=u1.cell 2
   have qf:=u1.free
   have hu1:=u1.lt
   go_wp2_with fail
   refine bodyPost_ret (Ia rfl rfl (((u1.set_ 0 _).set_ 1 _).set_ 2 _)) rfl ⟨_,rfl,?_,((bv.setCell (by simp) _).setCell (by simp) _).setCell (by simp) _⟩
   exact ((((D3'.out.set_ (by omega) 0 _).set_ (by omega) 1 _).set_ (by omega) 2 _).low (by omega)).more (by simp)
end Go.Proofs.YtmdfjbpggbhgnaaGreatDoor
namespace Go.Proofs.YtmdfjbpggbhgnaaGreatDoor
open Go.RowKit
def IY (P:Program) (ops:Array Oper) (Q:Exit→Act→World→Prop) (rest:List Oper):Exit→Act→World→Prop
 | .normal,a,w=>wpList P ops Q rest a w
 | e,a,w=>Q e a w
section
variable {P:Program} {md:Region.Mode} {Q:Exit→Act→World→Prop}
theorem Ni {ops:Array Oper}:∀ (f:Nat) (listed:Array Bool) (a:Act) (w:World),wpAny P md ops Q f listed a w→wpAny P md ops Q (f+1) listed a w
 | 0,listed,a,w,h=>⟨fun _=>h.2,by rw [h.1];intro i hi;cases hi⟩
 | f+1,listed,a,w,h=>⟨h.1,fun i hi=>wpOp_mono (fun a' w' h'=>Ni f _ a' w' h') (h.2 i hi)⟩
theorem Nj {ops:Array Oper} {g:Nat} {listed:Array Bool} {a:Act} {w:World} (h:wpAny P md ops Q g listed a w):∀ f,wpAny P md ops Q (f+g) listed a w
 | 0=>by rw [Nat.zero_add];exact h
 | f+1=>by rw [show f+1+g=(f+g)+1 by omega];exact Ni _ _ _ _ (Nj h f)
def TQ (md:Region.Mode) (ops:Array Oper) (n:Nat):Bool:=(List.range n).all fun i=>match ops[i]? with
 | none=>false
 | some o=>(o.after.all fun e=>!Region.binds md e || decide (e.on<i)) && (match o.guard with|none=>true|some (g,_)=>decide (g<n))
def Gh (N n:Nat):Array Bool:=((List.range N).map fun j=>decide (j<n)).toArray
def MQ (md:Region.Mode) (ops:Array Oper) (n:Nat):Bool :=
 decide (n<ops.size) && Region.sinkB md ops n && Region.chainB md ops n && TQ md ops n && Region.seqB md ops (ops.size - n) n (Gh ops.size n)
theorem Oa {ops:Array Oper} {n i:Nat} {o:Oper} (h:TQ md ops n=true) (hi:i<n) (ho:ops[i]?=some o) :
  (∀ e∈o.after,Region.binds md e=true→e.on<i)∧(∀ g b,o.guard=some (g,b)→g<n):=by
 have h1:=List.all_eq_true.1 h i (List.mem_range.2 hi)
 simp only [ho,Bool.and_eq_true,Array.all_eq_true_iff_forall_mem,Bool.or_eq_true,Bool.not_eq_true',decide_eq_true_eq] at h1
 refine ⟨fun e he hb=>?_,fun g b hg=>?_⟩
 ·rcases h1.1 e he with h2|h2
  ·rw [h2] at hb;cases hb
  ·exact h2
 ·have h2:=h1.2
  rw [hg] at h2
  simpa using h2
theorem Hg {listed:Array Bool} {i:Nat} (hi:i<listed.size):listed.getD i true=listed.getD i false:=by simp [hi]
section
variable {l:List Oper} {n:Nat} {listed listed':Array Bool}
theorem Oc (hn:n<l.toArray.size) {i:Nat} (hi:i<n):(l.take n).toArray[i]?=l.toArray[i]?:=by
 simp [List.getElem?_take,hi]
theorem Nk (hb:TQ md l.toArray n=true) (hn:n<l.toArray.size) (hs:listed.size=l.toArray.size) (hs':listed'.size=n) (he:∀ i,i<n→listed'.getD i false=listed.getD i false) {i:Nat} (hi:i<n) :
  i∈Region.ready md (l.take n).toArray listed' ↔ i∈Region.ready md l.toArray listed:=by
 rw [mem_ready,mem_ready,Oc hn hi,Hg (by omega),Hg (by omega),he i hi]
 refine and_congr_right fun _=>exists_congr fun o=>and_congr_right fun ho=>?_
 have hk:=(Oa hb hi ho).1
 refine forall_congr' fun e=>forall_congr' fun hm=>forall_congr' fun hbd=>?_
 rw [he e.on (by have:=hk e hm hbd;omega)]
theorem Yj {i:Nat} (h:i∈Region.ready md (l.take n).toArray listed'):i<n:=by
 obtain ⟨_,o,ho,_⟩:=mem_ready.1 h
 have:=(Array.getElem?_eq_some_iff.1 ho).1
 simp at this
 omega
theorem TR (hb:TQ md l.toArray n=true) (hn:n<l.toArray.size) (hs':listed'.size=n) (hr:Region.ready md (l.take n).toArray listed'=[]):∀ i,i<n→listed'.getD i false=true:=by
 intro i
 induction i using Nat.strongRecOn with
 | _ i ih =>
  intro hi
  cases hl:listed'.getD i false with
  | true=>rfl
  | false =>
   exfalso
   have ho:l.toArray[i]?=some (l.toArray[i]'(by omega)):=Array.getElem?_eq_getElem (by omega)
   have hk:=(Oa hb hi ho).1
   have:i∈Region.ready md (l.take n).toArray listed':=mem_ready.2 ⟨by rw [Hg (by omega)];exact hl,_,(Oc hn hi).trans ho,fun e he hbd=>ih e.on (hk e he hbd) (by have:=hk e he hbd;omega)⟩
   rw [hr] at this
   cases this
theorem AaT (inv:HeadInv md l.toArray n listed) (hn:n<l.toArray.size) (h:∀ i,i<n→listed.getD i false=true):listed=Gh l.toArray.size n:=by
 refine Array.ext (by rw [inv.size];simp [Gh]) fun i h1 h2=>?_
 have hi:i<l.toArray.size:=by rw [←inv.size];exact h1
 have e:(Gh l.toArray.size n)[i]=decide (i<n):=by simp [Gh]
 rw [e]
 by_cases hin:i<n
 ·have:=h i hin
  rw [decide_eq_true hin]
  simpa [h1] using this
 ·have:=inv.tail i (by omega) hi
  rw [decide_eq_false hin]
  simpa [h1] using this
theorem Py {rest:List Oper} {ops:Array Oper} (h:LetsOut (IY P ops Q rest)):LetsOut Q:=h
theorem AaU {o:Oper} {rest:List Oper} {ops:Array Oper} {a:Act} {w:World} {K K':Act→World→Prop} (hK:∀ a w,K a w→K' a w) (h:o.wp P a w K (IY P ops Q rest)):o.wp P a w K' Q:=by
 unfold Oper.wp at *
 generalize (execOp a.eval o).run P w=r at *
 cases r with
 | ok n w' =>
  cases n <;> simp only [Oper.upon] at h ⊢ <;>
   first
    | exact hK _ _ h
    | exact Calls.mono h (fun e w'' he=>by cases e <;> first|exact hK _ _ he|exact he)
    | exact Rows.mono h (fun _ _ he=>hK _ _ he)
 | halt x w'=>cases x <;> simp only [Oper.upon] at h ⊢ <;> exact h
theorem QX (hb:TQ md l.toArray n=true) (hn:n<l.toArray.size) {i:Nat} {o:Oper} (hi:i<n) (ho:l.toArray[i]?=some o) (tmps:Array Value) :
  Region.wanted o (yielded (l.take n).toArray tmps)=Region.wanted o (yielded l.toArray tmps):=by
 have hg:=(Oa hb hi ho).2
 unfold Region.wanted
 cases h:o.guard with
 | none=>rfl
 | some gw =>
  obtain ⟨g,b⟩:=gw
  have e:yielded (l.take n).toArray tmps g=yielded l.toArray tmps g:=by
   unfold yielded
   rw [Oc hn (hg g b h)]
  simp only [e]
theorem Vw (hb:TQ md l.toArray n=true) (hn:n<l.toArray.size) {i:Nat} (hi:i<n) {rest:List Oper} {a:Act} {w:World} {K K':Act→World→Prop} (hK:∀ a w,K a w→K' a w)
  (h:wpOp P (l.take n).toArray (IY P l.toArray Q rest) i K a w):wpOp P l.toArray Q i K' a w:=by
 have ho:l.toArray[i]?=some (l.toArray[i]'(by omega)):=Array.getElem?_eq_getElem (by omega)
 unfold wpOp at *
 rw [Oc hn hi] at h
 simp only [ho] at h ⊢
 rw [QX hb hn hi ho] at h
 split
 ·rename_i hw
  rw [if_pos hw] at h
  rcases h with h|⟨h1,h2⟩
  ·exact .inl (AaU hK h)
  ·exact .inr ⟨h1,Py h2⟩
 ·rename_i hw
  rw [if_neg hw] at h
  exact hK _ _ h
theorem Ib (hB:MQ md l.toArray n=true):∀ (f:Nat) (listed listed':Array Bool) (a:Act) (w:World),HeadInv md l.toArray n listed→listed'.size=n→(∀ i,i<n→listed'.getD i false=listed.getD i false) →
  wpAny P md (l.take n).toArray (IY P l.toArray Q (l.drop n)) f listed' a w→wpAny P md l.toArray Q (f+(l.toArray.size - n)) listed a w:=by
 simp only [MQ,Bool.and_eq_true,decide_eq_true_eq] at hB
 obtain ⟨⟨⟨⟨hn,hs⟩,hc⟩,hb⟩,hq⟩:=hB
 have hend:∀ (listed listed':Array Bool) (a:Act) (w:World),HeadInv md l.toArray n listed→listed'.size=n→(∀ i,i<n→listed'.getD i false=listed.getD i false)→Region.ready md (l.take n).toArray listed'=[] →
   wpList P l.toArray Q (l.drop n) a w→wpAny P md l.toArray Q (l.toArray.size - n) listed a w:=fun listed listed' a w inv hs' he hr h=>by
  have hall:=TR hb hn hs' hr
  have hl:=AaT inv hn (fun i hi=>by rw [←he i hi];exact hall i hi)
  rw [hl]
  have:=wpAny_of_seq (md:=md) (Q':=Q) (P:=P) (l.drop n) n (Gh l.toArray.size n) a w (fun j=>by simp [List.getElem?_drop]) (by
   rw [show (l.drop n).length=l.toArray.size - n by simp];exact hq) h
  rwa [show (l.drop n).length=l.toArray.size - n by simp] at this
 intro f
 induction f with
 | zero =>
  intro listed listed' a w inv hs' he h
  rw [Nat.zero_add]
  exact hend listed listed' a w inv hs' he h.1 h.2
 | succ f ih =>
  intro listed listed' a w inv hs' he h
  by_cases hr:Region.ready md (l.take n).toArray listed'=[]
  ·exact Nj (hend listed listed' a w inv hs' he hr (h.1 hr)) _
  ·obtain ⟨i0,hi0⟩:=List.exists_mem_of_ne_nil _ hr
   have hin0:=Yj hi0
   have hr0:=(Nk hb hn inv.size hs' he hin0).1 hi0
   have hun0:=(mem_ready.1 hr0).1
   rw [show f+1+(l.toArray.size - n)=(f+(l.toArray.size - n))+1 by omega]
   refine ⟨fun h0=>(by rw [h0] at hr0;cases hr0),fun i hi=>?_⟩
   have hin:i<n:=Nat.lt_of_not_le fun hle=>tail_waits hs hc hn inv _ i0 rfl hin0 hun0 i hle hi
   refine Vw hb hn hin (fun a' w' h'=>?_) (h.2 i ((Nk hb hn inv.size hs' he hin).2 hi))
   refine ih _ _ a' w' (inv.set hi hin) (by simp [hs']) (fun j hj=>?_) h'
   by_cases hij:i=j
   ·subst hij
    rw [Array.getD_eq_getD_getElem?,Array.getD_eq_getD_getElem?,Array.getElem?_setIfInBounds_self_of_lt (by omega),Array.getElem?_setIfInBounds_self_of_lt (by rw [inv.size];omega)]
   ·rw [getD_set_ne false hij,getD_set_ne false hij]
    exact he j hj
theorem MR {id:Nat} {a:Act} {w:World} (n:Nat) (hm:P.follows .mixedOrders=true) (hB:MQ .any l.toArray n=true)
  (h:wpAny P .any (l.take n).toArray (IY P l.toArray Q (l.drop n)) n (Array.replicate n false) a w.drew):(Code.region id l.toArray true).wp P Q a w:=by
 have hB0:=hB
 simp only [MQ,Bool.and_eq_true,decide_eq_true_eq] at hB0
 have hn:=hB0.1.1.1.1
 refine wp_region_any hm ?_
 have inv0:HeadInv .any l.toArray n (Array.replicate l.toArray.size false) :=
  ⟨by simp,fun j oj _ hl=>(by rw [getD_replicate_false] at hl;cases hl),fun t _ ht=>getD_in (by simpa using ht) (getD_replicate_false _ _)⟩
 have:=Ib hB n (Array.replicate l.toArray.size false) (Array.replicate n false) a w.drew inv0 (by simp) (fun i _=>by rw [getD_replicate_false,getD_replicate_false]) h
 rwa [show n+(l.toArray.size - n)=l.toArray.size by omega] at this
end
/- A statement whose order is left open, walked by hand, under a condition S on the world. -/
end
end Go.Proofs.YtmdfjbpggbhgnaaGreatDoor
