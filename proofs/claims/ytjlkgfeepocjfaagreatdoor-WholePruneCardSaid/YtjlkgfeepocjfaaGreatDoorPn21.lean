/- What the proofs of this claim share, part 21. No conditions. -/
import Derived.Test.YtjlkgfeepocjfaaGreatDoorPn20
import Derived.Test.YtjlkgfeepocjfaaGreatDoorPn10
import Derived.Test.YtjlkgfeepocjfaaGreatDoorPn19
import Derived.Test.YtjlkgfeepocjfaaGreatDoorPn15
import Derived.Test.YtjlkgfeepocjfaaGreatDoorPn16
import Derived.Test.YtjlkgfeepocjfaaGreatDoorPn13
import Derived.Deep.AppendLies
import Derived.Deep.RegionLaw
set_option maxRecDepth 100000
set_option maxHeartbeats 8000000
set_option linter.all false
open Go.Proofs.Tryz
namespace Go.Proofs.YtjlkgfeepocjfaaGreatDoor
open Go.RowKit Go.Deep
variable {p p':Prop} {w w':World} {b0 base fuel g i i' n s:Nat} {V v:Value} {bs l:List Bk} {ops:Array Oper} {o:Oper} {a:Act} {Q:Exit→Act→World→Prop} {ps:List Prt} {os zs:List Int} {b:Bk} {m:List Bool} {L:List Nat} {xs:List Value} {S:Dm} {tg:Bool} {e:TypeId}
def zBlk:Value:=.agg #[.int .i64 0,.slice none 0 0,.int .i64 0,.int .i64 0,.int .i64 0,.int .i64 0]
theorem AjI:(prog.info? 65).map (fun i=>(i.zero,i.size,i.bytes))=some (some zBlk,6,64):=by kernel_rfl
theorem AcC:prog.underlying 23=some (.slice 65):=by kernel_rfl
def Hk (w:World) (base:Nat) (v:Value) (l:List Bk):Prop:=w.ownsRow base 65 6 v l.length (Eg Bk.cells l)
theorem Hk.nil_ (w:World) (base:Nat):Hk w base (.slice none 0 0) []:=jn w base _ _
theorem AlC (h:p:=by
 rcases h.2 with ⟨rfl,h0⟩|⟨g,cap,cur,rfl,hb,hg,hn,hm,hs,ht⟩
 ·have:l=[]:=bj h0
  subst this
  exact ⟨none,0,rfl,fun _=>rfl,Aj.nil_⟩
 ·have hlt:=(World.ownsRow.lt h g rfl).2
  refine ⟨some ⟨g,0,none⟩,cap,rfl,by simp,fun _=>⟨g,0,rfl,hlt,hlt,fun j u hu=>?_⟩⟩
  have:=World.ownsRow.cells h (g:=g) rfl j u hu
  rcases j with _|j
  ·simpa [Addr.add] using this
  ·simpa [Addr.add] using this):p:=h
theorem Hk.view (h:Hk w base v l):∃ A c,v=.slice A l.length c∧(A=none→c=0)∧Aj w w.heap.size A (Eg Bk.cells l):=by
 exact AlC
theorem Hk.alloc (h:Hk w base v l) (o:Obj):Hk (w.alloc o) base v l:=World.ownsRow.alloc h o
theorem Hk.base_ (h:Hk w base v l) {base':Nat} (hb:base'≤base):Hk w base' v l:=by
 refine ⟨h.1,?_⟩
 rcases h.2 with hn|⟨g,cap,cur,rfl,hbg,rest⟩
 ·exact .inl hn
 ·exact .inr ⟨g,cap,cur,rfl,lT hb hbg,rest⟩
theorem Hk.below {B:Nat} (h:Hk w base v l) (hb:Below B w w') (hv:∀ g,v.ownBlock=some g→g<B):Hk w' base v l:=by
 refine ⟨h.1,?_⟩
 rcases h.2 with hn|⟨g,cap,cur,rfl,hbg,hg,rest⟩
 ·exact .inl hn
 ·refine .inr ⟨g,cap,cur,rfl,hbg,?_,rest⟩
  rw [hb.block g (hv g rfl)]
  exact hg
theorem Hk.call (h:Hk w base v l) (hb:Below w.heap.size w w'):Hk w' base v l:=h.below hb (fun g hg=>(World.ownsRow.lt h g hg).2)
theorem Hk.set_below (h:Hk w base v l) {b j:Nat} (u:Value) (hb:b<base):Hk (w.setCell ⟨b,j,none⟩ u) base v l:=by
 refine ⟨h.1,?_⟩
 rcases h.2 with hn|⟨g,cap,cur,rfl,hbg,hg,rest⟩
 ·exact .inl hn
 ·refine .inr ⟨g,cap,cur,rfl,hbg,?_,rest⟩
  rw [heap_setCell_other _ ⟨b,j,none⟩ g _ (by simp;omega)]
  exact hg
theorem AgD {rest:List Oper} (hgd:o.guard=none) (s x:Operand)
  (ho:o.op=.call { callee:=.builtin .append,args:=#[s,x],argTypes:=#[23,23] })
  (base:Nat) (v:Value) (l:List Bk) (b:Bk) (g:Nat) (hs:a.eval s=v) (hown:Hk w base v l) (hx:a.eval x=.slice (some ⟨g,0,none⟩) 1 1) (hg:∀ j u,b.cells[j]?=some u→w.cell? ⟨g,j,none⟩=some u)
  (hlen:l.length<1000000) (hbase:base≤w.heap.size)
  (h:∀ v' w',Hk w' base v' (l++[b])→w.grownBy w' v.ownBlock→Below base w w'→wpList prog ops Q rest (a.put o.dst v') w'):wpList prog ops Q (o::rest) a w:=by
 obtain ⟨i0,hi,hz0,hz1,hz2⟩:=info_parts AjI
 refine wpList_append_own w hgd s x 23 ho base 65 i0 zBlk 6 64 AcC hi hz0 hz1 hz2 rfl (by decide) v l.length (Eg Bk.cells l) hs hown ⟨g,0,none⟩ 1 1 b.cells hx rfl ?_ (by simp [Bk.cells,Value.oneCell']) (by unfold maxLen;omega) (by omega) hbase (fun v' w' h1 h2 _=>h v' w' ?_ h2 ((ah base w).grown h2 hbase (fun g hg=>(World.ownsRow.lt hown g hg).1)))
 ·intro j u hu
  have:=hg j u hu
  rwa [Go.WideShapes.add_plain,ax]
 ·have e:Eg Bk.cells (l++[b])=Eg Bk.cells l++b.cells:=by simp [Eg]
  unfold Hk
  rw [e,aq]
  exact h1
theorem FW {l:List Int} (h:∀ x∈l,x=0):Ai l=0:=by
 induction l with
 | nil=>rfl
 | cons y l ih =>
  have:=h y (by simp)
  subst this
  exact ih fun x hx=>h x (by simp [hx])
theorem Rz (h:Dc ps bs os=0):Ai (ps.map DI)=0∧Ai (bs.map (Be ps.length bs.length))=0∧Ai (os.map (Ll bs.length))=0:=by
 have hb:=QH h
 unfold Dc at h
 rw [Aw] at h
 by_cases h1:Ai (ps.map DI)=0
 ·rw [if_pos h1,Aw,if_pos hb] at h
  exact ⟨h1,hb,h⟩
 ·rw [if_neg h1] at h;exact absurd h h1
theorem AgE {np:Nat} (h:Ai (bs.map (Be np bs.length))=0) (hb:bs[i]?=some b):Be np bs.length b=0:=BH h _ (fo (gM hb))
theorem AcD (bs:List Bk) (i:Nat):BV bs true i=Hl bs i:=by simp [BV]
theorem XC {j:Nat}:j∈Wf m ↔ isM m j=true:=by
 unfold Wf
 simp only [iq,gc]
 exact ⟨fun h=>h.2,fun h=>⟨AdR h,h⟩⟩
def OZ (b:Bk):Int × List Int × Int × Int × Int × Int:=(b.kind,b.args,b.vn,b.ve,b.un,b.ue)
theorem AcE {x:Bk} (h:OZ x=OZ b):x.kind=b.kind∧x.args=b.args∧x.vn=b.vn∧x.ve=b.ve∧x.un=b.un∧x.ue=b.ue:=by
 simp only [OZ,Prod.mk.injEq] at h
 exact h
theorem Vf {l':List Bk} (h:l.map OZ=l'.map OZ):l.length=l'.length:=by
 have:=congrArg List.length h
 simpa using this
def AgF (n:Nat) (os:List Int):List Bool:=os.foldl (fun m o=>m.set o.toNat true) (List.replicate n false)
def Vg (bs:List Bk) (os:List Int):List Bool:=EJ bs true bs.length (AgF bs.length os)
def AG (bs:List Bk) (os:List Int):List Nat:=Wf (Vg bs os)
def AaV (n:Nat) (os:List Int):Prop:=∀ o∈os,0≤o∧o<(n:Int)
theorem XD (n:Nat) (os:List Int):(AgF n os).length=n:=by unfold AgF;rw [LJ];simp
theorem RC (bs:List Bk) (os:List Int):(Vg bs os).length=bs.length:=by unfold Vg;rw [IK,XD]
theorem AaW (h:AaV n os) (j:Nat):isM (AgF n os) j=true ↔∃o∈os,o.toNat=j:=by
 unfold AgF
 constructor
 ·intro hj
  rcases Ic os _ j hj with h1|h1
  ·rw [Aeb] at h1;cases h1
  ·exact h1
 ·rintro ⟨o,ho,rfl⟩
  have:=h o ho
  exact LL os _ o ho (by simp;omega)
theorem AaX (hok:Lk bs) (h:AaV bs.length os) (j:Nat):isM (Vg bs os) j=true ↔∃o∈os,Reach bs true o.toNat j:=by
 unfold Vg
 rw [Wj hok (XD _ _)]
 constructor
 ·rintro ⟨i,hi,hr⟩
  obtain ⟨o,ho,rfl⟩:=(AaW h i).1 hi
  exact ⟨o,ho,hr⟩
 ·rintro ⟨o,ho,hr⟩
  exact ⟨o.toNat,(AaW h _).2 ⟨o,ho,rfl⟩,hr⟩
structure PrI (bs:List Bk) (os:List Int) (t:Nat) (m:List Bool):Prop where
 len:m.length=bs.length
 is:∀ j,isM m j=true ↔∃o∈os.take t,Reach bs true o.toNat j
theorem PrI.start (bs:List Bk) (os:List Int):PrI bs os 0 (List.replicate bs.length false):=⟨by simp,fun j=>by rw [Aeb];simp⟩
theorem PrI.step {t:Nat} {m':List Bool} {o:Int} (h:PrI bs os t m) (ho:os[t]?=some o) (hp:GO bs true m o.toNat m'):PrI bs os (t+1) m':=by
 refine ⟨hp.len.trans h.len,fun j=>?_⟩
 rw [ak,ho]
 constructor
 ·intro hj
  rcases hp.from_ j hj with h1|h1
  ·obtain ⟨s,hs,hr⟩:=(h.is j).1 h1
   exact ⟨s,by simp [hs],hr⟩
  ·exact ⟨o,by simp,h1⟩
 ·rintro ⟨s,hs,hr⟩
  rcases List.mem_append.1 hs with hs|hs
  ·exact hp.mono j ((h.is j).2 ⟨s,hs,hr⟩)
  ·simp at hs
   subst hs
   induction hr with
   | refl=>exact hp.self
   | step hr1 ha ih =>
    rename_i j' a
    cases hm:isM m j' with
    | true =>
     obtain ⟨q,hq,hr2⟩:=(h.is j').1 hm
     exact hp.mono _ ((h.is _).2 ⟨q,hq,hr2.step ha⟩)
    | false=>exact hp.closed _ ih hm _ ha
theorem PrI.done {t:Nat} (h:PrI bs os t m) (hok:Lk bs) (ho:AaV bs.length os) (ht:os.length≤t):m=Vg bs os:=by
 refine Pj (h.len.trans (RC _ _).symm) fun j _=>?_
 show isM m j=true ↔ isM (Vg bs os) j=true
 rw [h.is,AaX hok ho,am ht]
theorem Zi (m:List Bool):(Wf m).Nodup:=(List.nodup_range).filter _
theorem Hd (h:i∈AG bs os):i<bs.length:=by
 have:=AdR (XC.1 h)
 rwa [RC] at this
theorem MV (bs:List Bk) (os:List Int):(AG bs os).length≤bs.length:=by
 have:=AgC (Vg bs os)
 rwa [RC] at this
/- New numbers. -/
def MW (L:List Nat) (a:Int):Int:=if a.toNat∈L then ((L.idxOf a.toNat:Nat):Int) else 0
def AaY (n:Nat) (L:List Nat) (t:Nat):List Int:=(List.range n).map fun j=>if j∈L.take t then ((L.idxOf j:Nat):Int) else 0
theorem AjJ (n:Nat) (L:List Nat) (t:Nat):(AaY n L t).length=n:=by simp [AaY]
theorem AgG (n:Nat) (L:List Nat):AaY n L 0=List.replicate n 0:=by
 refine gd (by simp [AaY]) fun i h1 h2=>?_
 simp [AaY]
theorem AtJ (hn:L.Nodup) {t i:Nat} (h:L[t]?=some i):L.idxOf i=t:=by
 obtain ⟨ht,rfl⟩:=gS.1 h
 exact hn.idxOf_getElem t ht
theorem AjK {t:Nat} (hn:L.Nodup) (h:L[t]?=some i):(AaY n L t).set i (t:Int)=AaY n L (t+1):=by
 refine gd (by simp [AaY]) fun j h1 h2=>?_
 rw [List.getElem_set]
 simp only [AaY,ko,lr]
 rw [ak,h]
 by_cases e:i=j
 ·subst e
  rw [if_pos rfl,if_pos (by simp),AtJ hn h]
 ·rw [if_neg e]
  have:(j∈L.take t++(some i).toList) ↔ j∈L.take t:=by simp;intro h;exact absurd h.symm e
  simp only [this]
theorem AaZ {j:Nat} (hj:j<n):(AaY n L L.length)[j]?=some (MW L (j:Int)):=by
 simp [AaY,MW,hj]
def prB (L:List Nat) (b:Bk):Bk:=⟨b.kind,none,if b.kind=0 then b.args else b.args.map (MW L),0,b.vn,b.ve,b.un,b.ue⟩
def Dk (bs:List Bk) (os:List Int):List Bk:=(AG bs os).map fun i=>prB (AG bs os) (bs[i]?.getD bk0)
def Oo (bs:List Bk) (os:List Int):List Int:=os.map (MW (AG bs os))
theorem Da (bs:List Bk) (os:List Int):(Dk bs os).length=(AG bs os).length:=by simp [Dk]
theorem AjL {k:Nat} (h:(AG bs os)[k]?=some i) (hb:bs[i]?=some b):(Dk bs os)[k]?=some (prB (AG bs os) b):=by
 simp [Dk,h,hb]
theorem RD {a:Int} (h:a.toNat∈L):0≤MW L a∧MW L a<(L.length:Int)∧L[(MW L a).toNat]?=some a.toNat:=by
 unfold MW
 rw [if_pos h]
 have h1:=List.idxOf_lt_length_iff.2 h
 refine ⟨by omega,by omega,?_⟩
 rw [ar,gE h1,List.getElem_idxOf h1]
section
variable {ps:List Prt} {bs:List Bk} {os:List Int} (hd:Av ps bs os=0)
include hd
theorem AgH:AaV bs.length os:=by
 intro o ho
 have:=BH (Rz (FK hd).2.1).2.2 _ (fo (f:=Ll bs.length) ho)
 unfold Ll at this
 by_cases h:0≤o∧o<(bs.length:Int)
 ·exact h
 ·rw [if_neg h] at this;cases this
theorem Zj (j:Nat):j∈AG bs os ↔∃o∈os,Reach bs true o.toNat j:=by
 unfold AG
 rw [XC,AaX (Yh hd) (AgH hd)]
theorem Aba {o:Int} (ho:o∈os):o.toNat∈AG bs os:=(Zj hd _).2 ⟨o,ho,Reach.refl _⟩
theorem MY (hi:i∈AG bs os) {a:Int} (ha:a∈Hl bs i):a.toNat∈AG bs os:=by
 obtain ⟨o,ho,hr⟩:=(Zj hd _).1 hi
 exact (Zj hd _).2 ⟨o,ho,hr.step (by rw [AcD];exact ha)⟩
theorem He {k:Nat} (h:(AG bs os)[k]?=some i):∃ b,bs[i]?=some b∧(Dk bs os)[k]?=some (prB (AG bs os) b):=by
 have hi:=Hd (gM h)
 exact ⟨bs[i],gE hi,AjL h (gE hi)⟩
theorem Zk {k:Nat} (h:(AG bs os)[k]?=some i):AQ (Dk bs os) k=AQ bs i:=by
 obtain ⟨b,hb,hp⟩:=He hd h
 rw [Fe hb,Fe hp]
 rfl
theorem AjM {k:Nat} (h:(AG bs os)[k]?=some i):Hl (Dk bs os) k=(Hl bs i).map (MW (AG bs os)):=by
 obtain ⟨b,hb,hp⟩:=He hd h
 rw [IO hb,IO hp]
 show (if b.kind=0 then [] else if b.kind=0 then b.args else b.args.map (MW (AG bs os)))=_
 by_cases hk:b.kind=0
 ·rw [if_pos hk,if_pos hk];rfl
 ·rw [if_neg hk,if_neg hk,if_neg hk]
theorem AgI {k:Nat} (h:(AG bs os)[k]?=some i) {b:Bk} (hb:bs[i]?=some b):Be ps.length (Dk bs os).length (prB (AG bs os) b)=0:=by
 have h0:Be ps.length bs.length b=0:=AgE (QH (FK hd).2.1) hb
 have hargs:Ai ((prB (AG bs os) b).args.map (Ll (Cm ps.length (Dk bs os).length b.kind)))=0:=by
  by_cases hk:b.kind=0
  ·have ha:=(Pn h0).2.2
   show Ai ((if b.kind=0 then b.args else b.args.map (MW (AG bs os))).map _)=0
   rw [if_pos hk]
   refine FW fun x hx=>?_
   obtain ⟨a,hm,rfl⟩:=List.mem_map.1 hx
   have:=ha a hm
   unfold Cm at this ⊢
   rw [if_pos hk] at this ⊢
   exact if_pos this
  ·show Ai ((if b.kind=0 then b.args else b.args.map (MW (AG bs os))).map _)=0
   rw [if_neg hk]
   refine FW fun x hx=>?_
   obtain ⟨a',hm',rfl⟩:=List.mem_map.1 hx
   obtain ⟨a,hm,rfl⟩:=List.mem_map.1 hm'
   unfold Cm
   rw [if_neg hk]
   have hin:=MY hd (gM h) (a:=a) (by rw [IO hb,if_neg hk];exact hm)
   obtain ⟨q1,q2,_⟩:=RD hin
   exact if_pos ⟨q1,by rw [Da];exact q2⟩
 have hlen:(prB (AG bs os) b).args.length=b.args.length:=by
  show (if b.kind=0 then b.args else b.args.map (MW (AG bs os))).length=_
  split
  ·rfl
  ·simp
 unfold Be at h0 ⊢
 rw [hlen]
 show (if Ay b.kind<0 then 7 else if ¬ ((b.args.length:Nat):Int)=Ay b.kind then 11 else if ¬ Ai ((prB (AG bs os) b).args.map (Ll (Cm ps.length (Dk bs os).length b.kind)))=0 then 10 else _)=(0:Int)
 rw [if_neg (not_not_intro hargs)]
 split at h0
 ·cases h0
 ·rename_i n1
  rw [if_neg n1]
  split at h0
  ·cases h0
  ·rename_i n2
   rw [if_neg n2]
   split at h0
   ·cases h0
   ·exact h0
theorem Abb:Av ps (Dk bs os) (Oo bs os)=0:=by
 obtain ⟨q1,q2,q3⟩:=Rz (FK hd).2.1
 have hs:=(FK hd).1
 have hsz:CT ps (Dk bs os) (Oo bs os):=by
  unfold CT at hs ⊢
  have:=MV bs os
  rw [Da,Oo,ad]
  exact ⟨hs.1,by omega,hs.2.2⟩
 have hpre:Dc ps (Dk bs os) (Oo bs os)=0:=by
  refine pe4 q1 (FW fun x hx=>?_) (FW fun x hx=>?_)
  ·obtain ⟨y,hy,rfl⟩:=List.mem_map.1 hx
   obtain ⟨k,hk⟩:=dq hy
   have hkl:=(gS.1 hk).1
   rw [Da] at hkl
   have hL:=gE hkl
   obtain ⟨b,hb,hp⟩:=He hd hL
   rw [hp] at hk
   cases hk
   exact AgI hd hL hb
  ·obtain ⟨y,hy,rfl⟩:=List.mem_map.1 hx
   unfold Oo at hy
   obtain ⟨o,ho,rfl⟩:=List.mem_map.1 hy
   obtain ⟨p1,p2,_⟩:=RD (Aba hd ho)
   exact if_pos ⟨p1,by rw [Da];exact p2⟩
 rw [de2 hsz hpre]
 unfold Db
 refine if_pos ?_
 apply bz
 intro hst
 obtain ⟨U,hU,u,hu⟩:=XA (TV (Rz hpre).2.1) hst
 have hs2:Sup bs (fun v=>∃ k,(AG bs os)[k]?=some v∧U k):=by
  rintro v ⟨k,hk,hUk⟩
  obtain ⟨r1,r2,a,ha,hUa⟩:=hU k hUk
  rw [Zk hd hk] at r2
  rw [AjM hd hk] at ha
  obtain ⟨a0,ha0,rfl⟩:=List.mem_map.1 ha
  have hm:=gM hk
  exact ⟨Hd hm,r2,a0,ha0,_,(RD (MY hd hm ha0)).2.2,hUa⟩
 obtain ⟨r1,_,_⟩:=hU u hu
 rw [Da] at r1
 have:=XB hs2 (u:=(AG bs os)[u]) ⟨u,gE r1,hu⟩
 apply this
 have ho:=(FK hd).2.2
 unfold Db at ho
 by_cases h:(Bb bs).length=Cy bs
 ·exact h
 ·rw [if_neg h] at ho;cases ho
theorem AcF:(AG bs os).Nodup:=Zi _
end
def zPrt:Value:=.agg #[.int .i64 0,.int .i64 0,.int .i64 0]
theorem AjN:(prog.info? 61).map (fun i=>(i.zero,i.size,i.bytes))=some (some zPrt,3,24):=by kernel_rfl
theorem Tv:prog.underlying 22=some (.slice 61):=by kernel_rfl
def AlD (w:World) (base:Nat) (v:Value) (l:List Prt):Prop:=w.ownsRow base 61 3 v l.length (Eg Prt.cells l)
theorem AlD.lit0 (h:base≤w.heap.size):AlD (w.alloc (.cells #[] 61)) base (.slice (some ⟨w.heap.size,0,none⟩) 0 0) []:=World.ownsRow_made w #[] 0 h (af _) rfl
theorem AlD.view {l:List Prt} (h:AlD w base v l):∃ A c,v=.slice A l.length c∧(A=none→c=0)∧Aj w w.heap.size A (Eg Prt.cells l):=by
 exact AlC
theorem AjO {ys:List Prt}:∀ u∈Eg Prt.cells ys,u.oneCell'=true:=by
 intro u hu
 obtain ⟨l,hl,hu⟩:=List.mem_flatten.1 hu
 obtain ⟨p,_,rfl⟩:=List.mem_map.1 hl
 simp [Prt.cells] at hu
 rcases hu with rfl|rfl|rfl <;> rfl
theorem AgJ {rest:List Oper} (hgd:o.guard=none) (s x:Operand)
  (ho:o.op=.call { callee:=.builtin .append,args:=#[s,x],argTypes:=#[22,22] })
  (base:Nat) (v:Value) (xs ys:List Prt) (A:Option Addr) (c m:Nat) (hs:a.eval s=v) (hown:AlD w base v xs) (hx:a.eval x=.slice A ys.length c) (hn:A=none→c=0) (hc:Aj w m A (Eg Prt.cells ys))
  (hlen:xs.length+ys.length≤1000000) (hbase:base≤w.heap.size)
  (h:∀ v' w',AlD w' base v' (xs++ys)→w.grownBy w' v.ownBlock→Below base w w'→wpList prog ops Q rest (a.put o.dst v') w'):wpList prog ops Q (o::rest) a w:=by
 obtain ⟨i0,hi,hz0,hz1,hz2⟩:=info_parts AjN
 rcases A with _|⟨b,off,l⟩
 ·have hy:ys=[]:=by
   rcases ys with _|⟨y,ys⟩
   ·rfl
   ·obtain ⟨b,off,hA,_⟩:=hc (by simp [Eg,Prt.cells])
    cases hA
  subst hy
  have hc0:=hn rfl
  subst hc0
  exact wpList_append_own_none hgd s x 22 ho base 61 i0 3 Tv hi v xs.length (Eg Prt.cells xs) hs hown hx (h v w (by rw [av];exact hown) ⟨rfl,rfl,rfl,aa _,fun _ _ _=>rfl⟩ (ah _ _))
 ·refine wpList_append_own w hgd s x 22 ho base 61 i0 zPrt 3 24 Tv hi hz0 hz1 hz2 rfl (by decide) v xs.length (Eg Prt.cells xs) hs hown ⟨b,off,l⟩ ys.length c (Eg Prt.cells ys) hx (by rw [TU (f:=Prt.cells) (s:=3) (fun _=>rfl)]) ?_ AjO (by unfold maxLen;omega) (by omega) hbase (fun v' w' h1 h2 _=>h v' w' ?_ h2 ((ah base w).grown h2 hbase (fun g hg=>(World.ownsRow.lt hown g hg).1)))
  ·intro j u hu
   obtain ⟨b',off',hA,_,_,hcc⟩:=hc (fun h0=>by rw [h0] at hu;simp at hu)
   cases hA
   have hu':=hcc j u hu
   rcases j with _|j
   ·simpa [Addr.add] using hu'
   ·simpa [Addr.add] using hu'
  ·have e:Eg Prt.cells (xs++ys)=Eg Prt.cells xs++Eg Prt.cells ys:=by simp [Eg]
   unfold AlD
   rw [e,aq]
   exact h1
theorem AgK (n:Nat):(madeCells (Value.int .i64 0).cells (n*1)).toList=CR (List.replicate n 0):=by
 simp only [Value.cells,cz,CR,List.map_replicate]
 exact toList_madeCells_one _ _
theorem Dv.byB {xs:List Int} (h:Dv w base v xs) (hV:Hk w b0 V l) (hg:w.grownBy w' V.ownBlock):Dv w' base v xs:=by
 refine World.ownsRow.kept h hg ?_
 rcases h.2 with ⟨rfl,_⟩|⟨g,cap,cur,rfl,_,hh,_⟩
 ·exact .inl rfl
 ·refine .inr fun he=>?_
  rcases hV.2 with ⟨rfl,_⟩|⟨g',cap',cur',rfl,_,hh',_⟩
  ·cases he
  ·have:g=g':=by simpa [Value.ownBlock] using he
   subst this
   rw [hh] at hh'
   simp at hh'
theorem Hk.setLow (h:Hk w base v l) (hg:g<base) (j:Nat) (u:Value):Hk (w.setCell ⟨g,j,none⟩ u) base v l:=h.set_below u hg
theorem AlE (h:p:=by
 refine ⟨h.1,?_⟩
 rcases h.2 with hn|⟨g',cap,cur,rfl,hbg,hg',rest⟩
 ·exact .inl hn
 ·refine .inr ⟨g',cap,cur,rfl,hbg,?_,rest⟩
  rw [ha.block g' (Array.getElem?_eq_some_iff.1 hg').1 (by omega)]
  exact hg'):p:=h
theorem Dv.apart {xs:List Int} (h:Dv w base v xs) (ha:CF g w w') (hg:g<base):Dv w' base v xs:=by
 exact AlE
theorem Hk.apart (h:Hk w base v l) (ha:CF g w w') (hg:g<base):Hk w' base v l:=by
 exact AlE
theorem CF.more {B:Nat} {W:World} (h:CF g W w) (hb:Below B w w') (hB:W.heap.size≤B):CF g W w' :=
 ⟨hb.os.trans h.os,hb.tape.trans h.tape,hb.output.trans h.output,lT h.size hb.size,fun k hk hkg=>(hb.block k (au hk hB)).trans (h.block k hk hkg)⟩
theorem AcG {K:Act→World→Prop} {E:Prop} (hgd:o.guard=none) (s x:Operand)
  (ho:o.op=.call { callee:=.builtin .append,args:=#[s,x],argTypes:=#[24,24] })
  (base:Nat) (v:Value) (xs:List Int) (z:Int) (g:Nat) (hs:a.eval s=v) (hown:Dv w base v xs) (hx:a.eval x=.slice (some ⟨g,0,none⟩) 1 1) (hg:w.cell? ⟨g,0,none⟩=some (.int .i64 z))
  (hlen:xs.length<1000000) (hbase:base≤w.heap.size)
  (h:∀ v' w',Dv w' base v' (xs++[z])→w.grownBy w' v.ownBlock→Below base w w'→K (a.put o.dst v') w'):if Region.wanted o (yielded ops a.tmps)=true then Oper.wp prog o a w K Q else E:=by
 obtain ⟨i0,hi,hz0,hz1,hz2⟩:=info_parts TT
 refine step_append_lies w hgd s x 24 ho base 3 i0 (.int .i64 0) 1 8 IM hi hz0 hz1 hz2 rfl (by decide) v xs.length (CR xs) hs hown ⟨g,0,none⟩ 1 1 [.int .i64 z] hx rfl ?_ (by simp [Value.oneCell']) (by decide) (by unfold maxLen;omega) (by omega) hbase _ rfl (fun g' cap w' h1 h2 _ _=>h _ w' ?_ h2 ((ah base w).grown h2 hbase (fun g hg=>(World.ownsRow.lt hown g hg).1)))
 ·intro j u hu
  rcases j with _|j
  ·simp at hu;subst hu;simpa [Addr.add] using hg
  ·simp at hu
 ·have e:CR (xs++[z])=CR xs++[.int .i64 z]:=by simp [CR]
  unfold Dv
  rw [e,aq]
  exact h1
theorem AtK {k:Nat} (h:Av ps bs os=0) (hb:bs[k]?=some b):Be ps.length bs.length b=0 :=
 BH (QH (FK h).2.1) _ (fo (gM hb))
structure Nz (d:Dg):Prop where
 n1:d.A1=none→d.c1=0
 n4:∀ b∈d.bs,b.A=none→b.cap=0
theorem AgL {tmps:Array Value} {b:Nat} {v0 v1 v2 v3 v4:Value} (h2:tmps.getD 2 undef=.pointer (some ⟨b,0,none⟩)) (h3:tmps.getD 3 undef=v3) (h4:tmps.getD 4 undef=v4) (hB:BQ w b [v0,v1,v2] 26) :
  (results Tryz.f7 tmps).run prog w=.ok (.tuple #[.agg #[v0,v1,v2],v3,v4]) w:=by
 have k0:=hB.cell 0
 have k1:=hB.cell 1
 have k2:=hB.cell 2
 simp at k0 k1 k2
 simp at h2 h3 h4
 simp [results,results7,go_sem,h2,h3,h4,k0,k1,k2]
def pg1 (w:World) (bs:List Bk) (os:List Int) (g:Nat) (w2:World) (v:Value) (wr:World):Prop :=
 ∃ (t:Nat) (m:List Bool),t≤os.length∧v=.int .i64 (t:Int)∧PrI bs os t m∧BQ wr g (GS m) 4∧CF g w2 wr
def pg2 (n:Nat) (L:List Nat) (gi:Nat) (w5:World) (v:Value) (wr:World):Prop :=
 ∃ t:Nat,t≤L.length∧v=.int .i64 (t:Int)∧BQ wr gi (CR (AaY n L t)) 3∧CF gi w5 wr
structure AjP (w:World) (base:Nat) (l:List Bk):Prop where
 args:∀ x∈l,Dv w base (.slice x.A x.args.length x.cap) x.args∧x.args.length≤1000000
def XE (bs:List Bk) (L:List Nat) (k:Nat):List Bk:=(L.take k).map fun i=>prB L (bs[i]?.getD bk0)
def pg3 (bs:List Bk) (L:List Nat) (PV:Value) (OB:Nat) (w17:World) (v:Value) (wr:World):Prop :=
 ∃ (k:Nat) (V:Value) (l:List Bk),k≤L.length∧v=.int .i64 (k:Int)∧BQ wr OB [PV,V,.slice none 0 0] 26∧Hk wr (OB+1) V l∧l.map OZ=(XE bs L k).map OZ∧AjP wr (OB+1) l∧Below OB w17 wr
def pg4 (S:Nat) (box:List Value) (zs:List Int) (wr:World) (v17 v81:Value) (w9:World):Prop :=
 ∃ (t:Nat) (v:Value),t≤zs.length∧v81=.int .i64 (t:Int)∧v17=v∧Dv w9 (S+1) v (zs.take t)∧BQ w9 S box 65∧Below S wr w9
def pg5 (os':List Int) (PV V:Value) (OB:Nat) (w33:World) (v:Value) (wr:World):Prop :=
 ∃ (t:Nat) (V5:Value),t≤os'.length∧v=.int .i64 (t:Int)∧BQ wr OB [PV,V,V5] 26∧Dv wr w33.heap.size V5 (os'.take t)∧CF OB w33 wr
theorem AgM {k:Nat} (h:k≤L.length):(XE bs L k).length=k:=by simp [XE];omega
theorem AcH {k:Nat} (h:L[k]?=some i) (hb:bs[i]?=some b):XE bs L (k+1)=XE bs L k++[prB L b]:=by
 unfold XE
 rw [ak,h]
 simp [hb]
theorem Apw {PV v17 v':Value} {OB k:Nat} {w17 wr w9 w5:World} {x:Bk} (o:Obj) (HO:BQ wr OB [PV,V,.slice none 0 0] 26) (HV:Hk wr (OB+1) V l) (hl:l.map OZ=(XE bs L k).map OZ) (HA:AjP wr (OB+1) l) (hb:Below OB w17 wr)
  (hk:L[k]?=some i) (hbi:bs[i]?=some b) (h9:Below wr.heap.size wr w9) (hO9:Dv w9 (wr.heap.size+1) v17 x.args) (hx:OZ x=OZ (prB L b)) (hxl:x.args.length≤1000000) (hv:v17=.slice x.A x.args.length x.cap)
  (hg:((w9.setCell ⟨wr.heap.size,1,none⟩ v17).alloc o).grownBy w5 V.ownBlock) (hb5:Below (OB+1) ((w9.setCell ⟨wr.heap.size,1,none⟩ v17).alloc o) w5) (hown:Hk w5 (OB+1) v' (l++[x])) :
  pg3 bs L PV OB w17 (.int .i64 ((k:Int)+1)) (w5.setCell ⟨OB,1,none⟩ v'):=by
 have hOB:=HO.lt
 have hkl:=(gS.1 hk).1
 have hbb:Below wr.heap.size wr ((w9.setCell ⟨wr.heap.size,1,none⟩ v17).alloc o):=(h9.setCell (p:=⟨wr.heap.size,1,none⟩) (aa _) v17).alloc (by have:=h9.size;simpa using this) o
 have HVb:Hk ((w9.setCell ⟨wr.heap.size,1,none⟩ v17).alloc o) (OB+1) V l:=HV.call hbb
 refine ⟨k+1,v',l++[x],by omega,by go_num,((HO.below hbb hOB).below hb5 (by omega)).set_ 1 v',hown.setLow (by omega) 1 v',?_,⟨fun y hy=>?_⟩,?_⟩
 ·rw [AcH hk hbi,ct,ct,hl]
  simp [hx]
 ·rcases List.mem_append.1 hy with hy|hy
  ·obtain ⟨h1,h2⟩:=HA.args y hy
   exact ⟨(Dv.byB (h1.call hbb) HVb hg).setLow (by omega) 1 v',h2⟩
  ·simp at hy
   subst hy
   subst hv
   exact ⟨(Dv.byB (((hO9.setLow (by omega) 1 _).alloc o).base_ (by omega)) HVb hg).setLow (by omega) 1 v',hxl⟩
 ·exact ((hb.trans (hbb.mono (by omega))).trans (hb5.mono (by omega))).setCell (p:=⟨OB,1,none⟩) (aa _) v'
theorem Apx {PV V5 v':Value} {OB t:Nat} {z:Int} {w33 wr w5:World} {o:Obj} (HO:BQ wr OB [PV,V,V5] 26) (hap:CF OB w33 wr) (hown:Dv w5 w33.heap.size v' (zs.take t++[z])) (hz:zs[t]?=some z) (hb:Below w33.heap.size ((wr.drew).alloc o) w5) (hOB:OB<w33.heap.size) :
  pg5 zs PV V OB w33 (.int .i64 ((t:Int)+1)) (w5.setCell ⟨OB,2,none⟩ v'):=by
 have hlt:=(gS.1 hz).1
 have h1:Below wr.heap.size wr ((wr.drew).alloc o):=(ah _ wr).drew.alloc (aa _) o
 refine ⟨t+1,v',by omega,by go_num,((HO.call h1).below hb hOB).set_ 2 v',?_,?_⟩
 ·rw [ak,hz]
  exact hown.setLow hOB 2 v'
 ·exact ((hap.trans (CF.of h1)).more hb (aa _)).trans (CF.set _)
theorem Dv.apart' {xs:List Int} (h:Dv w base v xs) (ha:CF g w w') (hg:∀ q,v.ownBlock=some q→q≠g):Dv w' base v xs:=by
 refine ⟨h.1,?_⟩
 rcases h.2 with hn|⟨g',cap,cur,rfl,hbg,hg',rest⟩
 ·exact .inl hn
 ·refine .inr ⟨g',cap,cur,rfl,hbg,?_,rest⟩
  rw [ha.block g' (Array.getElem?_eq_some_iff.1 hg').1 (hg g' rfl)]
  exact hg'
theorem Dv.set3 {xs:List Int} (h:Dv w base v xs) (hg:g<base) (a b c:Value):Dv (((w.setCell ⟨g,0,none⟩ a).setCell ⟨g,1,none⟩ b).setCell ⟨g,2,none⟩ c) base v xs:=((h.setLow hg 0 a).setLow hg 1 b).setLow hg 2 c
theorem Hk.set3 {xs:List Bk} (h:Hk w base v xs) (hg:g<base) (a b c:Value):Hk (((w.setCell ⟨g,0,none⟩ a).setCell ⟨g,1,none⟩ b).setCell ⟨g,2,none⟩ c) base v xs:=((h.setLow hg 0 a).setLow hg 1 b).setLow hg 2 c
theorem Aj.set3 {m:Nat} {A:Option Addr} (h:Aj w m A xs) (hA:∀ a:Addr,A=some a→a.block≠g) (a b c:Value):Aj (((w.setCell ⟨g,0,none⟩ a).setCell ⟨g,1,none⟩ b).setCell ⟨g,2,none⟩ c) m A xs:=((h.setD a hA).setD b hA).setD c hA
theorem Avq (w:World) (g:Nat) (a b c:Value):(((w.setCell ⟨g,0,none⟩ a).setCell ⟨g,1,none⟩ b).setCell ⟨g,2,none⟩ c).heap.size=w.heap.size:=by simp
theorem Aj.ap {m:Nat} {A:Option Addr} (h:Aj w m A xs) (ha:CF g w w') (hg:m≤g) (hm:m≤w.heap.size):Aj w' m A xs:=h.below (ha.below hg hm) (aa _)
open Go.ChangeShapes Go.WideShapes Go.ChangeAt Go.Joins
def Apy (w:World):Dm:=fun t b=>t=true∧b<w.heap.size
theorem AgN {A:Option Addr} {c:Nat} {cs:List D} (h:Aj w w.heap.size A xs) (hc:n≤c) (hA:A=none→c=0) (hl:cs.length=n*s) (hr:AP (Ba w (Apy w)) cs xs):Ba w (Apy w) (.row true s n cs) (.slice A n c):=by
 refine .row xs hc hA hl hr.1 (fun hne=>?_) hr.2
 obtain ⟨b,off,h1,_,h2,h3⟩:=h (fun h0=>hne (by have:=hr.1;rw [h0] at this;exact bj (by simpa using this)))
 exact ⟨b,off,h1,⟨rfl,h2⟩,h3⟩
theorem Vh:∀ v∈CR zs,v.oneCell'=true:=fun v hv=>by
 obtain ⟨z,_,rfl⟩:=List.mem_map.1 hv
 rfl
theorem AgO {A:Option Addr} {c:Nat} (h:Aj w w.heap.size A (CR zs)) (hc:zs.length≤c) (hA:A=none→c=0):Ba w (Apy w) (AM true zs) (.slice A zs.length c):=by
 unfold AM
 rw [Ww]
 exact AgN h hc hA (by simp [CR]) (GV Vh)
theorem AgP:∀ v∈Eg Prt.cells ps,v.oneCell'=true:=fun v hv=>by
 obtain ⟨l,hl,hv⟩:=List.mem_flatten.1 hv
 obtain ⟨p,_,rfl⟩:=List.mem_map.1 hl
 simp only [Prt.cells,et,ew,or_false] at hv
 rcases hv with rfl|rfl|rfl <;> rfl
theorem MZ {α:Type} {f:α→List Value} {s:Nat} (hf:∀ x,(f x).length=s):∀ l:List α,(Eg f l).length=l.length*s
 | []=>by simp [Eg]
 | x::l=>by
  have ih:=MZ hf l
  unfold Eg at ih ⊢
  rw [br,gg,aq,ih,hf,cq,bo]
  omega
theorem Apz {A:Option Addr} {c:Nat} (h:Aj w w.heap.size A (Eg Prt.cells ps)) (hc:ps.length≤c) (hA:A=none→c=0):Ba w (Apy w) (CU true ps) (.slice A ps.length c):=by
 unfold CU
 rw [Gy Mw]
 exact AgN h hc hA (by rw [ad];exact MZ (f:=Prt.cells) (s:=3) (fun _=>rfl) ps) (GV AgP)
theorem AlF {w:World}:∀ {bs:List Bk},(∀ b∈bs,Aj w w.heap.size b.A (CR b.args)∧b.args.length≤b.cap∧(b.A=none→b.cap=0))→AP (Ba w (Apy w)) (Ar (dBk true) bs) (Eg Bk.cells bs)
 | [],_=>.nil_
 | b::bs,h=>by
  have ih:=AlF (w:=w) (bs:=bs) fun x hx=>h x (by simp [hx])
  obtain ⟨h1,h2,h3⟩:=h b (by simp)
  exact .cons_ (.val rfl) (.cons_ (AgO h1 h2 h3) (.cons_ (.val rfl) (.cons_ (.val rfl) (.cons_ (.val rfl) (.cons_ (.val rfl) ih)))))
theorem AgQ (t:Bool):∀ bs:List Bk,(Ar (dBk t) bs).length=bs.length*6
 | []=>rfl
 | b::bs=>by
  have ih:=AgQ t bs
  show (Ar (dBk t) ([b]++bs)).length=_
  rw [Fb,aq,ih,cq,bo]
  show 6+bs.length*6=_
  omega
theorem ApA {e c:Nat} {A:Option Addr} {k:Nat} (h:w.ownsRow base e s (.slice A n c) k xs):n≤c:=by
 rcases h.2 with ⟨h',h0⟩|⟨g,cap,cur,h',_,_,hnc,_⟩
 ·simp only [Value.slice.injEq] at h'
  omega
 ·simp only [Value.slice.injEq] at h'
  omega
def AtL (ps:List Prt) (l0:List Bk) (os:List Int) (kept:List Int) (w:World) (e:Ending) (w':World):Prop :=
 ∃ (v1 v2 v3 v:Value) (l:List Bk),e=.returned (.tuple #[.agg #[v1,v2,v3],v,.nilIface])∧(∃ A c,v1=.slice A ps.length c∧(A=none→c=0)∧ps.length≤c∧(∀ a:Addr,A=some a→w.heap.size≤a.block)∧Aj w' w'.heap.size A (Eg Prt.cells ps))∧Hk w' w.heap.size v2 l∧AjP w' w.heap.size l∧l.map OZ=l0.map OZ∧Dv w' w.heap.size v3 os∧Dv w' w.heap.size v kept∧Below w.heap.size w w'
theorem AlG (h:p:=by
 refine ⟨⟨t+1,v',by omega,by go_num,rfl,?_,(HS9.out.al _).below hb10 (by omega),(h9b.alloc (by have:=HS9.out.lt;omega) _).trans (hb10.mono (by omega))⟩,by simp [intOf];omega⟩
 rw [ak,HZT.out]
 exact hown):p:=h
theorem AlH (h:p:=by
 subst HH9
 exact ⟨Apw _ HO.out HV.out HLC.out HBO.out hb HKI.out HX.out h9b HV9.out HXC.out HZL.out rfl hg10 hb10 (by simpa using hown10),by simp [intOf];omega⟩):p:=h
theorem Na (h:p:=by first|(simp;omega)|simp|omega):p:=h
theorem AgR (d:Dg) (m:Nat) (w:World) (hm:m≤w.heap.size) (hd:AdU w m d) (ht:An w) (hnz:Nz d) (he:Av d.ps d.bs d.os=0) :
    Calls prog 7 #[d.val] w (AtL d.ps (Dk d.bs d.os) (Oo d.bs d.os) (Br (AG d.bs d.os)) w):=by
  have hl1:=hd.l1
  have hl2:=hd.l2
  have hl3:=hd.l3
  have HD:=mi hd
  have HT:=mi ht
  clear hd ht
  obtain ⟨A1,ps,c1,A2,bs,c2,A3,os,c3⟩:=d
  dsimp only at hl1 hl2 hl3
  simp only [Dg.val]
  have b0:=Au (al_ w (.cells #[.slice A1 ps.length c1,.slice A2 bs.length c2,.slice A3 os.length c3] 26)) (.cells #[.slice none 0 0,.slice none 0 0,.slice none 0 0] 26)
  have r0:=(BQ.new_ w [.slice A1 ps.length c1,.slice A2 bs.length c2,.slice A3 os.length c3] 26).al (.cells #[.slice none 0 0,.slice none 0 0,.slice none 0 0] 26)
  have rr:=BQ.new_ (w.alloc (.cells #[.slice A1 ps.length c1,.slice A2 bs.length c2,.slice A3 os.length c3] 26)) [.slice none 0 0,.slice none 0 0,.slice none 0 0] 26
  rw [ZM] at rr
  have HB0:=mi b0
  have R0:=mi r0
  have RR:=mi rr
  clear b0 r0 rr
  go_enter func7,ntmps7
  go_wp2_with fail
  go_at_call 22
  refine (Check_any ⟨A1,ps,c1,A2,bs,c2,A3,os,c3⟩ m _ (by simp;omega) (HD.out.below HB0.out hm) (HT.out.below HB0.out HT.out.1)).mono ?_
  rintro e w1 ⟨rfl,hb1⟩
  dsimp only
  have R1:=mi (R0.out.call hb1)
  have RR1:=mi (RR.out.call hb1)
  have N1:=mi (HB0.out.trans (hb1.mono HB0.out.size))
  have z1:w.heap.size+1<w1.heap.size:=RR1.out.lt
  clear hb1
  try dsimp only at he
  try dsimp only
  rw [he,Gj]
  have HE:=mi he
  have HOK:=mi (Yh he)
  have HOO:=mi (AgH he)
  have HN1:=mi hnz.n1
  obtain ⟨i0,hi,hz0,hz1,hz2⟩:=info_parts Wp
  obtain ⟨j0,hj,hy0,hy1,hy2⟩:=info_parts TT
  have q1:w1.cell? ⟨w.heap.size,1,none⟩=some (.slice A2 bs.length c2):=R1.out.cell 1
  have q2:w1.cell? ⟨w.heap.size,2,none⟩=some (.slice A3 os.length c3):=R1.out.cell 2
  have z1':w.heap.size+2≤w1.heap.size:=by omega
  clear he hnz
  go_wp2_with (at_make; (with_reducible refine wpList_make_full _ rfl (.tmp 30) (.tmp 30) 80 rfl (w.heap.size + 2) 4 i0 (.bool false) 1 QC hi hz0 hz1 .i64 .i64 bs.length bs.length bs.length rfl rfl rfl rfl (by rw [hz2]; omega) (by unfold maxLen; omega) (by first | assumption | (simp; done) | (simp; omega)) ?_; intro w2 hown hg); have hst : Below (w.heap.size + 2) w1 w2 := (ah _ _).grown hg z1' (fun k h => by simp at h); have hrow := Ye hown; rw [Sw] at hrow; have R2 := mi (R1.out.below hst (by omega)); have RR2 := mi (RR1.out.below hst (by omega)); have HROW := mi hrow; have hzg := hrow.lt; have q1' : w2.cell? ⟨w.heap.size, 1, none⟩ = some (.slice A2 bs.length c2) := R2.out.cell 1; have q2' : w2.cell? ⟨w.heap.size, 2, none⟩ = some (.slice A3 os.length c3) := R2.out.cell 2; have z2 : w.heap.size < w2.heap.size := (by omega); have N2 := mi (N1.out.trans (hst.mono (by omega))); clear hown hrow hst hg q1 q2)
  obtain ⟨g,hg⟩:∃ g,g=w1.heap.size:=⟨_,rfl⟩
  rw [←hg] at HROW hzg
  rw [←hg]
  have hgw:w.heap.size+2≤g:=by omega
  clear hg q1' q2' R1 RR1 N1 z1 z1'
  go_loopw [35] (fun v wr=>pg1 w bs os g w2 v wr) (fun v _=>os.length - (intOf v).toNat)
  case atStart=>exact ⟨0,_,af _,rfl,PrI.start _ _,HROW.out,CF.refl _ _⟩
  case round =>
    obtain ⟨t,mm,ht,rfl,hpr,hrow,hap⟩:=hrel
    have HPR:=mi hpr
    have HRW:=mi hrow
    have zg:=hrow.lt
    have R3:=mi (R2.out.apart hap (by omega))
    have RR3:=mi (RR2.out.apart hap (by omega))
    have N3:=mi (N2.out.trans (hap.below (by omega) (by omega)))
    have z3:w.heap.size<wr.heap.size:=R3.out.lt
    have q1:wr.cell? ⟨w.heap.size,1,none⟩=some (.slice A2 bs.length c2):=R3.out.cell 1
    clear hpr hrow
    by_cases hlt:t<os.length
    · as_aux_lemma =>
      have hlti:(t:Int)<(os.length:Int):=by omega
      obtain ⟨ob,oo,z,rfl,hob,hob2,hz,gz⟩:=(HD.out.below N3.out hm).os.int_ hlt
      dsimp only at gz hz hob hob2
      have hzb:=HOO.out z (gM hz)
      obtain ⟨a,rfl⟩:=fh hzb.1
      have haN:a<bs.length:=by have:=hzb.2;omega
      have q0:wr.cell? ⟨w.heap.size,0,none⟩=some (.slice A1 ps.length c1):=R3.out.cell 0
      have q2:wr.cell? ⟨w.heap.size,2,none⟩=some (.slice (some ⟨ob,oo,none⟩) os.length c3):=R3.out.cell 2
      have HZ:=mi hz
      clear hz hzb
      go_wp2_with fail
      go_at_call 23
      refine (AhU ⟨A1,ps,c1,A2,bs,c2,some ⟨ob,oo,none⟩,os,c3⟩ m g true (by omega) HOK.out (bs.length+1) mm a wr (by have:=AqX mm;rw [HPR.out.len] at this;omega) HPR.out.len haN (HD.out.below N3.out hm) HRW.out).mono ?_
      rintro e w3 ⟨rfl,l',hp,hrow3,hap3⟩
      have HP:=mi hp
      clear hp
      have N4:=mi hrow3
      have A4:=mi (hap.trans hap3)
      clear hrow3 hap hap3 q0 q1 q2 gz
      go_wp2_with fail
      exact ⟨⟨t+1,l',by omega,by go_num,HPR.out.step HZ.out (by rw [ar];exact HP.out),N4.out,A4.out⟩,by simp [intOf];omega⟩
    · have hle:¬ (t:Int)<(os.length:Int):=by omega
      have HM:=mi (HPR.out.done HOK.out HOO.out (by omega))
      have hmln:=HPR.out.len
      have HLL:=mi hmln
      have z3':w.heap.size+2≤wr.heap.size:=by omega
      clear hap HPR R2 RR2 N2 HROW hmln
      go_wp2_with fail
      go_at_call 24
      rw [←HLL.out]
      refine (AhS (some ⟨g,0,none⟩) mm mm.length wr.heap.size wr (aa _) (HRW.out.cells_ HRW.out.lt) (by have:=HLL.out;omega)).mono ?_
      rintro e w4 ⟨v4,rfl,D4,hb4⟩
      obtain ⟨A4,c4,rfl,n4,hc4⟩:=D4.view
      have HQ4 := mi (D4.base_ (show w.heap.size + 2 ≤ wr.heap.size from z3'))
      have HC4:=mi hc4
      have R4:=mi (R3.out.call hb4)
      have RR4:=mi (RR3.out.call hb4)
      have N4:=mi (N3.out.trans (hb4.mono N3.out.size))
      have z4:w.heap.size+1<w4.heap.size:=RR4.out.lt
      have q1':w4.cell? ⟨w.heap.size,1,none⟩=some (.slice A2 bs.length c2):=R4.out.cell 1
      clear D4 hc4 hb4 n4 q1 R3 RR3 N3
      rw [HLL.out]
      have hmk:Br (Wf mm)=Br (AG bs os):=by rw [HM.out];rfl
      rw [hmk] at HC4 HQ4
      rw [hmk]
      rw [Cb] at HQ4
      rw [Cb]
      obtain ⟨L,hL⟩:∃ L,L=AG bs os:=⟨_,rfl⟩
      rw [←hL] at HC4 HQ4
      rw [←hL]
      have HL:=mi hL
      have HND := mi (show L.Nodup by rw [hL]; exact AcF HE.out)
      have HLT := mi (show ∀ j ∈ L, j < bs.length by rw [hL]; exact fun j hj => Hd hj)
      have hLn:L.length≤bs.length:=by rw [hL];exact MV _ _
      clear hmk hL HM HRW zg hgw
      have z4':w.heap.size+2≤w4.heap.size:=by omega
      go_wp2_with (at_make; (with_reducible refine wpList_make_full _ rfl (.tmp 48) (.tmp 48) 24 rfl (w.heap.size + 2) 3 j0 (.int .i64 0) 1 IM hj hy0 hy1 .i64 .i64 bs.length bs.length bs.length rfl rfl rfl rfl (by rw [hy2]; omega) (by unfold maxLen; omega) (by first | assumption | (simp; done) | (simp; omega)) ?_; intro w5 hown hg); have hst : Below (w.heap.size + 2) w4 w5 := (ah _ _).grown hg z4' (fun k h => by simp at h); have hst2 : Below w4.heap.size w4 w5 := (ah _ _).grown hg (aa _) (fun k h => by simp at h); have hrow := Ye hown; rw [AgK, ← AgG bs.length L] at hrow; have HQ5 := mi (HQ4.out.call hst2); have HQ5K := mi (show ∀ q, (Value.slice A4 L.length c4).ownBlock = some q → q < w4.heap.size from fun q hq => (World.ownsRow.lt HQ4.out q hq).2); have HQ5L := mi (show ∀ q, (Value.slice A4 L.length c4).ownBlock = some q → q ≠ w4.heap.size from fun q hq => Nat.ne_of_lt (World.ownsRow.lt HQ4.out q hq).2); have HC5 := mi (HC4.out.below hst2 (aa _)); have R5 := mi (R4.out.below hst (by omega)); have RR5 := mi (RR4.out.below hst (by omega)); have HGI := mi hrow; have zgi := hrow.lt; have N5 := mi (N4.out.trans (hst.mono (by omega))); clear hown hrow hst hst2 hg q1')
      obtain ⟨gi,hgi⟩:∃ gi,gi=w4.heap.size:=⟨_,rfl⟩
      rw [←hgi] at HGI HC5 zgi HQ5L HQ5K
      rw [←hgi]
      have hgiw:w.heap.size+2≤gi:=by omega
      clear hgi HC4 HQ4 R4 RR4 N4 z4 z4'
      go_loopw [52] (fun v wr=>pg2 bs.length L gi w5 v wr) (fun v _=>L.length - (intOf v).toNat)
      case atStart=>exact ⟨0,af _,rfl,HGI.out,CF.refl _ _⟩
      case round =>
        clear HGI
        obtain ⟨t,ht,rfl,hgr,hap⟩:=hrel
        have HG:=mi hgr
        have zg:gi<wr.heap.size:=hgr.lt
        have gf:∀ j,wr.frozen? ⟨gi,j,none⟩=false:=fun j=>hgr.free j
        clear hgr
        by_cases hlt:t<L.length
        · as_aux_lemma =>
          have hlti:(t:Int)<(L.length:Int):=by omega
          obtain ⟨lb,lo,z,rfl,hlb,hlb2,hz,gz⟩:=(HC5.out.ap hap (aa _) (by omega)).int_ (k:=t) (by rw [Cb];exact hlt)
          rw [AaU] at hz
          obtain ⟨j,hj',rfl⟩:=Option.map_eq_some_iff.1 hz
          have HJ:=mi hj'
          have hjn:j<bs.length:=HLT.out j (gM hj')
          have hji:(j:Int)<(bs.length:Int):=by omega
          have hcj:wr.cell? ⟨gi,j,none⟩=some (.int .i64 ((AaY bs.length L t)[j]?.getD 0)):=by
            have h1:j<(AaY bs.length L t).length:=by rw [AjJ];exact hjn
            rw [HG.out.cell,gE h1]
            exact Vc (gE h1)
          clear hz hj'
          go_wp2_with fail
          exact ⟨⟨t+1,by omega,by go_num,by rw [←AjK HND.out HJ.out,AjE];exact HG.out.set_ j _,hap.trans (CF.set _)⟩,by simp [intOf];omega⟩
        · have hle:¬ (t:Int)<(L.length:Int):=by omega
          have e:t=L.length:=by omega
          subst e
          have HQ6:=mi (HQ5.out.apart' hap HQ5L.out)
          have R6:=mi (R5.out.apart hap (by omega))
          have RR6:=mi (RR5.out.apart hap (by omega))
          have N6:=mi (N5.out.trans (hap.below (by omega) (by omega)))
          have HC6:=mi (HC5.out.ap hap (aa _) (by omega))
          have q0:wr.cell? ⟨w.heap.size,0,none⟩=some (.slice A1 ps.length c1):=R6.out.cell 0
          have z6:w.heap.size<wr.heap.size:=R6.out.lt
          have HP6:=mi (HD.out.below N6.out hm).ps
          have HWE := mi (show w.heap.size + 2 ≤ wr.heap.size by omega)
          clear hap HC5 HQ5 R5 RR5 N5 gf
          go_wp2_with (at_builtin; refine AgJ rfl (.tmp 62) (.tmp 64) rfl wr.heap.size _ [] ps A1 c1 m rfl (AlD.lit0 (aa _)) rfl HN1.out (HP6.out.below (al_ _ _) (by omega)) (by simpa using hl1) (by simp) ?_; intro v7 w7 hown7 hg7 hb7; rw [ea] at hown7; obtain ⟨A7, c7, rfl, n7, hc7⟩ := hown7.view; have HC7 := mi hc7; have HN7K := mi (ApA hown7); have HNP := mi n7; have HP7L := mi (show ∀ a : Addr, A7 = some a → wr.heap.size ≤ a.block from fun a ha => (World.ownsRow.lt hown7 a.block (by rw [ha]; rfl)).1); have hz7 := hb7.size; have HB7 := mi (Below.trans ((ah wr.heap.size wr).alloc (aa _) _) hb7); clear hown7 hg7 hb7 hc7 n7 q0)
          have hz7':wr.heap.size≤w7.heap.size:=HB7.out.size
          have R7:=mi (R6.out.call HB7.out)
          have RR7:=mi (RR6.out.call HB7.out)
          have HQ7:=mi (HQ6.out.call HB7.out)
          have N7:=mi (N6.out.trans (HB7.out.mono N6.out.size))
          have HC7k:=mi (HC6.out.below HB7.out (by omega))
          have HG7:=mi (HG.out.call HB7.out)
          have HP7M := mi (show ∀ a : Addr, A7 = some a → w.heap.size + 1 < a.block from fun a ha => by have := HP7L.out a ha; have := HWE.out; omega)
          clear HQ6 R6 RR6 N6 HC6 HP6 HB7 HG hz7 HP7L
          obtain ⟨OB,hOB⟩:∃ OB,OB=w7.heap.size:=⟨_,rfl⟩
          obtain ⟨W7,hW7⟩:∃ W,W=w7.alloc (.cells #[.slice A7 ps.length c7,.slice none 0 0,.slice none 0 0] 26):=⟨_,rfl⟩
          have hz7s:W7.heap.size=w7.heap.size+1:=by rw [hW7];simp
          have RO:=mi (BQ.new_ w7 [.slice A7 ps.length c7,.slice none 0 0,.slice none 0 0] 26)
          have b7:=al_ w7 (.cells #[.slice A7 ps.length c7,.slice none 0 0,.slice none 0 0] 26)
          have R8:=mi (R7.out.call b7)
          have RR8:=mi (RR7.out.call b7)
          have HQ8:=mi (HQ7.out.call b7)
          have HQ8L := mi (show ∀ q, (Value.slice A4 L.length c4).ownBlock = some q → q < gi from HQ5K.out)
          have N8:=mi (N7.out.trans (b7.mono N7.out.size))
          have HC8k:=mi (HC7k.out.below b7 (by omega))
          have HC8:=mi (HC7.out.below b7 (aa _))
          have HGI9:=mi (HG7.out.call b7)
          rw [←hW7] at RO R8 RR8 HQ8 N8 HC8k HC8 HGI9
          rw [←hOB] at RO HC8
          rw [←hW7,←hOB]
          have hgiO:gi<OB:=by omega
          have hOW:W7.heap.size=OB+1:=by omega
          have HOW:=mi hOW
          have hmO:m≤OB:=by omega
          have hwO:w.heap.size+1<OB:=by omega
          clear hOB hW7 hz7s b7 HQ7 R7 RR7 N7 HC7k HG7 HC7 hz7' z6 zg hOW hgiw zgi
          go_loopw [69] (fun v wr=>pg3 bs L (.slice A7 ps.length c7) OB W7 v wr) (fun v _=>L.length - (intOf v).toNat)
          case atStart=>exact ⟨0,_,[],af _,rfl,RO.out,Hk.nil_ _ _,rfl,⟨by simp⟩,ah _ _⟩
          case round =>
            clear RO
            obtain ⟨k,V,l,hk,rfl,hro,hv,hlc,hbo,hb⟩:=hrel
            have HO:=mi hro
            have HV:=mi hv
            have HLC:=mi hlc
            have HBO:=mi hbo
            have HB:=mi hb
            have zo:OB<wr.heap.size:=hro.lt
            have HLK := mi (show l.length = k by have h1 := Vf hlc; rw [AgM hk] at h1; exact h1)
            have N9:=mi (N8.out.trans (hb.mono (by omega)))
            have HG9:=mi (HGI9.out.below hb hgiO)
            have R9:=mi (R8.out.below hb (by omega))
            have q1:wr.cell? ⟨w.heap.size,1,none⟩=some (.slice A2 bs.length c2):=R9.out.cell 1
            have z9:w.heap.size<wr.heap.size:=R9.out.lt
            have zgi:gi<wr.heap.size:=HG9.out.lt
            have HC9k:=mi (HC8k.out.below hb (Nat.le_of_lt hgiO))
            clear hro hv hlc hbo
            by_cases hlt:k<L.length
            · have hki:(k:Int)<(L.length:Int):=by omega
              have HLL := mi (show l.length < 1000000 by have := HLK.out; omega)
              obtain ⟨lb,lo,zk,rfl,hlb,hlb2,hz,gz⟩:=HC9k.out.int_ (k:=k) (by rw [Cb];exact hlt)
              rw [AaU] at hz
              obtain ⟨i,hi',rfl⟩:=Option.map_eq_some_iff.1 hz
              have HKI:=mi hi'
              have hil:i<bs.length:=HLT.out i (gM hi')
              clear hz hi'
              obtain ⟨b,off,kind,B,args,cap,vn,ve,un,ue,hA2,hbm,hbs,hx,g0,g1,g2,g3,g4,g5,ha,hal⟩:=(HD.out.below N9.out hm).blk hil
              dsimp only at hA2 hx
              subst hA2
              have HX:=mi hx
              have HA4:=mi ha
              have HA0 := mi (show ∀ z ∈ args, 0 ≤ z from fun z hz => by
                have h1:=(Pn (AtK HE.out HX.out)).2.2 z hz
                exact h1.1)
              clear hx ha
              by_cases hk0:kind=0
              · subst hk0
                obtain ⟨zs,hzs⟩:∃ zs:List Int,zs=(if (0:Int)=0 then args else args.map (MW L)):=⟨_,rfl⟩
                have HZS:=mi hzs
                have HZN := mi (show zs.length = args.length by rw [hzs, if_pos rfl])
                have HZL := mi (show zs.length ≤ 1000000 by rw [HZN.out]; exact hal)
                clear hzs
                obtain ⟨S,hS⟩:∃ S,S=wr.heap.size:=⟨_,rfl⟩
                have HS:=mi hS
                have hgiS:gi<S:=by omega
                have hOBS:OB<S:=by omega
                have hmS:m≤S:=by omega
                have hiS:(i:Int)<(bs.length:Int):=by omega
                clear hS
                go_wp2_with fail
                rw [←HZN.out]
                have HBX:=mi (BQ.new_ wr [.int .i64 0,.slice B zs.length cap,.int .i64 vn,.int .i64 ve,.int .i64 un,.int .i64 ue] 65)
                rw [←HS.out] at HBX
                rw [←HS.out]
                obtain ⟨wo,rfl⟩:∃ wo:World,wo=wr:=⟨_,rfl⟩
                go_loopw [17,81] (fun v17 v81 w9=>pg4 S [.int .i64 0,.slice B zs.length cap,.int .i64 vn,.int .i64 ve,.int .i64 un,.int .i64 ue] zs wo v17 v81 w9) (fun _ v81 _=>zs.length - (intOf v81).toNat)
                case atStart=>exact ⟨0,_,af _,rfl,rfl,Dv.nil_ _ _,HBX.out,by rw [HS.out];exact al_ _ _⟩
                case round =>
                  clear HBX
                  obtain ⟨t,v17,ht,rfl,rfl,hv9,hs9,h9b⟩:=hrel
                  have HV9:=mi hv9
                  have HS9:=mi hs9
                  have zS9:S<wr.heap.size:=hs9.lt
                  have q0:wr.cell? ⟨S,0,none⟩=some (.int .i64 0):=hs9.cell 0
                  clear hv9 hs9
                  by_cases hlt4:t<zs.length
                  · as_aux_lemma =>
                    have hzl:=HZL.out
                    have hlti:(t:Int)<(zs.length:Int):=by omega
                    have hlta:t<args.length:=by have:=HZN.out;omega
                    obtain ⟨ab,ao,z,rfl,hab,hab2,hz,gz⟩:=(HA4.out.below h9b hmS).int_ hlta
                    have hz0:0≤z:=HA0.out z (gM hz)
                    obtain ⟨a,rfl⟩:=fh hz0
                    clear hz0 hlta
                    have HZT := mi (show zs[t]? = some (a : Int) from by rw [HZS.out]; first | (rw [if_pos rfl]; exact hz) | simpa using hz)
                    clear hz
                    go_wp2_with (at_builtin;go_loud (refine Pm rfl (.tmp 92) (.tmp 94) rfl (S+1) _ (zs.take t) (a:Int) wr.heap.size rfl (HV9.out.alloc _) rfl (by simp [go_sem]) (by have:=HZL.out;rw [cj];omega) (by simp;omega) ?_);intro v' w10 hown hg hb10)
                    exact AlG
                  · have hle:¬ (t:Int)<(zs.length:Int):=by omega
                    have ht9:zs.take t=zs:=am (by omega)
                    rw [ht9] at HV9
                    obtain ⟨A17,c17,rfl,hn17,_⟩:=HV9.out.view
                    have q1:wr.cell? ⟨S,1,none⟩=some (.slice B zs.length cap):=HS9.out.cell 1
                    have q2:wr.cell? ⟨S,2,none⟩=some (.int .i64 vn):=HS9.out.cell 2
                    have q3:wr.cell? ⟨S,3,none⟩=some (.int .i64 ve):=HS9.out.cell 3
                    have q4:wr.cell? ⟨S,4,none⟩=some (.int .i64 un):=HS9.out.cell 4
                    have q5:wr.cell? ⟨S,5,none⟩=some (.int .i64 ue):=HS9.out.cell 5
                    have qf:∀ j,wr.frozen? ⟨S,j,none⟩=false:=fun j=>HS9.out.free j
                    have HO9:=mi (HO.out.below h9b hOBS)
                    have o1:wr.cell? ⟨OB,1,none⟩=some V:=HO9.out.cell 1
                    have of:∀ j,wr.frozen? ⟨OB,j,none⟩=false:=fun j=>HO9.out.free j
                    have zO9:OB<wr.heap.size:=by omega
                    have HVb := mi (HV.out.call (show Below wo.heap.size wo (wr.setCell ⟨S, 1, none⟩ (.slice A17 zs.length c17)) from by rw [← HS.out]; exact h9b.setCell (p := ⟨S, 1, none⟩) (aa _) _))
                    have HXC := mi (show OZ ⟨0, A17, zs, c17, vn, ve, un, ue⟩ = OZ (prB L ⟨0, B, args, cap, vn, ve, un, ue⟩) from by rw [HZS.out]; rfl)
                    have hSO:S≠OB:=by omega
                    clear ht9 hn17
                    go_wp2_with (at_builtin;refine AgD rfl (.tmp 100) (.tmp 102) rfl (OB+1) V l ⟨0,A17,zs,c17,vn,ve,un,ue⟩ wr.heap.size rfl (HVb.out.alloc _) rfl (by intro j u hu;rcases j with _|_|_|_|_|_|j <;> simp [Bk.cells] at hu <;> (subst hu;simp [go_sem])) (by have:=HLL.out;omega) Na ?_;intro v' w10 hown10 hg10 hb10;obtain ⟨qc,qff,qs,qz⟩:=Zo (m:=OB+1) hb10 Na Na;obtain ⟨A10',c10',rfl,_,_⟩:=hown10.view)
                    have HH9:=HS.out
                    exact AlH
              · have n0:(kind != 0)=true:=by simpa using hk0
                have HK0:=mi hk0
                clear hk0
                obtain ⟨zs,hzs⟩:∃ zs:List Int,zs=(if (kind:Int)=0 then args else args.map (MW L)):=⟨_,rfl⟩
                have HZS:=mi hzs
                have HZN := mi (show zs.length = args.length by rw [hzs, if_neg HK0.out]; simp)
                have HZL := mi (show zs.length ≤ 1000000 by rw [HZN.out]; exact hal)
                clear hzs
                obtain ⟨S,hS⟩:∃ S,S=wr.heap.size:=⟨_,rfl⟩
                have HS:=mi hS
                have hgiS:gi<S:=by omega
                have hOBS:OB<S:=by omega
                have hmS:m≤S:=by omega
                have hiS:(i:Int)<(bs.length:Int):=by omega
                clear hS
                go_wp2_with fail
                rw [←HZN.out]
                have HBX:=mi (BQ.new_ wr [.int .i64 kind,.slice B zs.length cap,.int .i64 vn,.int .i64 ve,.int .i64 un,.int .i64 ue] 65)
                rw [←HS.out] at HBX
                rw [←HS.out]
                obtain ⟨wo,rfl⟩:∃ wo:World,wo=wr:=⟨_,rfl⟩
                go_loopw [17,81] (fun v17 v81 w9=>pg4 S [.int .i64 kind,.slice B zs.length cap,.int .i64 vn,.int .i64 ve,.int .i64 un,.int .i64 ue] zs wo v17 v81 w9) (fun _ v81 _=>zs.length - (intOf v81).toNat)
                case atStart=>exact ⟨0,_,af _,rfl,rfl,Dv.nil_ _ _,HBX.out,by rw [HS.out];exact al_ _ _⟩
                case round =>
                  clear HBX
                  obtain ⟨t,v17,ht,rfl,rfl,hv9,hs9,h9b⟩:=hrel
                  have HV9:=mi hv9
                  have HS9:=mi hs9
                  have zS9:S<wr.heap.size:=hs9.lt
                  have q0:wr.cell? ⟨S,0,none⟩=some (.int .i64 kind):=hs9.cell 0
                  clear hv9 hs9
                  by_cases hlt4:t<zs.length
                  · as_aux_lemma =>
                    have hzl:=HZL.out
                    have hlti:(t:Int)<(zs.length:Int):=by omega
                    have hlta:t<args.length:=by have:=HZN.out;omega
                    obtain ⟨ab,ao,z,rfl,hab,hab2,hz,gz⟩:=(HA4.out.below h9b hmS).int_ hlta
                    have hz0:0≤z:=HA0.out z (gM hz)
                    obtain ⟨a,rfl⟩:=fh hz0
                    clear hz0 hlta
                    have HZT := mi (show zs[t]? = some (MW L (a : Int)) from by rw [HZS.out, if_neg HK0.out, ag, hz]; rfl)
                    have haN:a<bs.length:=by
                      have h:=HOK.out i hil (a:Int) (by rw [IO HX.out,if_neg HK0.out];exact gM hz)
                      omega
                    have haI:(a:Int)<(bs.length:Int):=by omega
                    have hca:wr.cell? ⟨gi,a,none⟩=some (.int .i64 (MW L (a:Int))):=by rw [(h9b.cell (p:=⟨gi,a,none⟩) (by show gi<S;omega)),HG9.out.cell];exact Vc (AaZ haN)
                    clear hz
                    go_wp2_with (at_builtin;go_loud (refine Pm rfl (.tmp 92) (.tmp 94) rfl (S+1) _ (zs.take t) (MW L (a:Int)) wr.heap.size rfl (HV9.out.alloc _) rfl (by simp [go_sem]) (by have:=HZL.out;rw [cj];omega) (by simp;omega) ?_);intro v' w10 hown hg hb10)
                    exact AlG
                  · have hle:¬ (t:Int)<(zs.length:Int):=by omega
                    have ht9:zs.take t=zs:=am (by omega)
                    rw [ht9] at HV9
                    obtain ⟨A17,c17,rfl,hn17,_⟩:=HV9.out.view
                    have q1:wr.cell? ⟨S,1,none⟩=some (.slice B zs.length cap):=HS9.out.cell 1
                    have q2:wr.cell? ⟨S,2,none⟩=some (.int .i64 vn):=HS9.out.cell 2
                    have q3:wr.cell? ⟨S,3,none⟩=some (.int .i64 ve):=HS9.out.cell 3
                    have q4:wr.cell? ⟨S,4,none⟩=some (.int .i64 un):=HS9.out.cell 4
                    have q5:wr.cell? ⟨S,5,none⟩=some (.int .i64 ue):=HS9.out.cell 5
                    have qf:∀ j,wr.frozen? ⟨S,j,none⟩=false:=fun j=>HS9.out.free j
                    have HO9:=mi (HO.out.below h9b hOBS)
                    have o1:wr.cell? ⟨OB,1,none⟩=some V:=HO9.out.cell 1
                    have of:∀ j,wr.frozen? ⟨OB,j,none⟩=false:=fun j=>HO9.out.free j
                    have zO9:OB<wr.heap.size:=by omega
                    have HVb := mi (HV.out.call (show Below wo.heap.size wo (wr.setCell ⟨S, 1, none⟩ (.slice A17 zs.length c17)) from by rw [← HS.out]; exact h9b.setCell (p := ⟨S, 1, none⟩) (aa _) _))
                    have HXC := mi (show OZ ⟨kind, A17, zs, c17, vn, ve, un, ue⟩ = OZ (prB L ⟨kind, B, args, cap, vn, ve, un, ue⟩) from by rw [HZS.out]; rfl)
                    have hSO:S≠OB:=by omega
                    clear ht9 hn17
                    go_wp2_with (at_builtin;refine AgD rfl (.tmp 100) (.tmp 102) rfl (OB+1) V l ⟨kind,A17,zs,c17,vn,ve,un,ue⟩ wr.heap.size rfl (HVb.out.alloc _) rfl (by intro j u hu;rcases j with _|_|_|_|_|_|j <;> simp [Bk.cells] at hu <;> (subst hu;simp [go_sem])) (by have:=HLL.out;omega) Na ?_;intro v' w10 hown10 hg10 hb10;obtain ⟨qc,qff,qs,qz⟩:=Zo (m:=OB+1) hb10 Na Na;obtain ⟨A10',c10',rfl,_,_⟩:=hown10.view)
                    have HH9:=HS.out
                    exact AlH
            · have hle:¬ (k:Int)<(L.length:Int):=by omega
              have e:k=L.length:=by omega
              subst e
              have HPV:=mi (HC8.out.below hb (aa _))
              have R10:=mi (R8.out.below hb (by omega))
              have RR10:=mi (RR8.out.below hb (by omega))
              have HQ10:=mi (HQ8.out.below hb (fun q hq=>by have:=HQ8L.out q hq;omega))
              have q2:wr.cell? ⟨w.heap.size,2,none⟩=some (.slice A3 os.length c3):=R10.out.cell 2
              have HWS := mi (show w.heap.size + 2 ≤ wr.heap.size by omega)
              have HDO:=mi (HD.out.below N9.out hm).os
              clear hb
              go_wp2_with fail
              obtain ⟨w3,rfl⟩:∃ w3:World,w3=wr:=⟨_,rfl⟩
              obtain ⟨zs,hzs⟩:∃ zs,zs=Oo bs os:=⟨_,rfl⟩
              have HZS:=mi hzs
              have HZN := mi (show zs.length = os.length by rw [hzs]; simp [Oo])
              have hz3:OB<w3.heap.size:=zo
              clear hzs q1 q2 z9 zgi
              rw [←HZN.out]
              go_loopw [109] (fun v wr=>pg5 zs (.slice A7 ps.length c7) V OB w3 v wr) (fun v _=>zs.length - (intOf v).toNat)
              case atStart=>exact ⟨0,_,af _,rfl,HO.out,Dv.nil_ _ _,CF.refl _ _⟩
              case round =>
                obtain ⟨t,V5,ht,rfl,hro,hv5,hap⟩:=hrel
                have HO5:=mi hro
                have HV5:=mi hv5
                have zo5:OB<wr.heap.size:=hro.lt
                have o2:wr.cell? ⟨OB,2,none⟩=some V5:=hro.cell 2
                have of:∀ j,wr.frozen? ⟨OB,j,none⟩=false:=fun j=>hro.free j
                have hs5:w3.heap.size≤wr.heap.size:=hap.size
                clear hro hv5
                by_cases hlt:t<zs.length
                · as_aux_lemma =>
                  have hlti:(t:Int)<(zs.length:Int):=by omega
                  have hlto:t<os.length:=by have:=HZN.out;omega
                  obtain ⟨ab,ao,z,rfl,hab,hab2,hz,gz⟩:=(HDO.out.ap hap hmO (by omega)).int_ hlto
                  have hzb:=HOO.out z (gM hz)
                  obtain ⟨a,rfl⟩:=fh hzb.1
                  have haN:a<bs.length:=by have:=hzb.2;omega
                  have haI:(a:Int)<(bs.length:Int):=hzb.2
                  have HZT := mi (show zs[t]? = some (MW L (a : Int)) from by rw [HZS.out, Oo, ag, hz, HL.out]; rfl)
                  have hca:wr.cell? ⟨gi,a,none⟩=some (.int .i64 (MW L (a:Int))):=by rw [((HG9.out.apart hap (by omega)).cell a)];exact Vc (AaZ haN)
                  have hgi5:gi<wr.heap.size:=by omega
                  have HZL := mi (show (zs.take t).length < 1000000 by rw [cj]; omega)
                  have HLN5 := mi (show (zs.take t ++ [MW L (a : Int)]).length = t + 1 by simp; omega)
                  have hzl:zs.length≤1000000:=by have:=HZN.out;omega
                  clear hz hzb hlto
                  go_wp2_with fail
                  go_region_law (refine AcG rfl (.tmp 114) (.tmp 119) rfl w3.heap.size V5 (zs.take t) (MW L (a:Int)) wr.heap.size rfl (HV5.out.alloc _) rfl (by simp [go_sem]) HZL.out Na ?_;intro v' w10 hown hg10 hb10;obtain ⟨qc,qff,qs,qz⟩:=Zo (m:=w3.heap.size) hb10 Na Na;obtain ⟨A10',c10',hv10,_,_⟩:=hown.view;rw [HLN5.out] at hv10;subst hv10)
                  all_goals
                    go_wp2_with fail
                    exact ⟨Apx HO5.out hap hown HZT.out hb10 hz3,by simp [intOf];omega⟩
                · have hle:¬ (t:Int)<(zs.length:Int):=by omega
                  have htz:zs.take t=zs:=am (by omega)
                  rw [htz] at HV5
                  obtain ⟨A5,c5,rfl,_,hc5⟩:=HV5.out.view
                  have hva:=HV.out.apart hap (by omega)
                  obtain ⟨AB,cB,rfl,_,hcB⟩:=hva.view
                  have HVA:=mi hva
                  have HC5:=mi hc5
                  have HCB:=mi hcB
                  have RR11:=mi (RR10.out.apart hap (by omega))
                  have HQ11:=mi (HQ10.out.apart' hap (fun q hq=>by have:=HQ8L.out q hq;omega))
                  have HBO5 := mi (show AjP wr (OB + 1) l from ⟨fun x hx => ⟨(HBO.out.args x hx).1.apart hap (by omega), (HBO.out.args x hx).2⟩⟩)
                  have HPV5 := mi (show Aj wr OB A7 (Eg Prt.cells ps) from HPV.out.ap hap (aa _) (by omega))
                  have N11:=mi (N9.out.trans (hap.below (by omega) (by omega)))
                  have p0:wr.cell? ⟨OB,0,none⟩=some (.slice A7 ps.length c7):=HO5.out.cell 0
                  have p1:wr.cell? ⟨OB,1,none⟩=some (.slice AB l.length cB):=HO5.out.cell 1
                  have p2:wr.cell? ⟨OB,2,none⟩=some (.slice A5 zs.length c5):=HO5.out.cell 2
                  have r0:wr.cell? ⟨w.heap.size+1,0,none⟩=some (.slice none 0 0):=RR11.out.cell 0
                  have r1:wr.cell? ⟨w.heap.size+1,1,none⟩=some (.slice none 0 0):=RR11.out.cell 1
                  have r2:wr.cell? ⟨w.heap.size+1,2,none⟩=some (.slice none 0 0):=RR11.out.cell 2
                  have rf:∀ j,wr.frozen? ⟨w.heap.size+1,j,none⟩=false:=fun j=>RR11.out.free j
                  have zrr:w.heap.size+1<wr.heap.size:=RR11.out.lt
                  have RF:=mi (((RR11.out.set_ 0 (.slice A7 ps.length c7)).set_ 1 (.slice AB l.length cB)).set_ 2 (.slice A5 zs.length c5))
                  clear hap hc5 hcB htz o2 hva
                  go_wp2_with fail
                  have hg2:w.heap.size+1<OB+1:=by omega
                  have hsz:=Avq wr (w.heap.size+1) (.slice A7 ps.length c7) (.slice AB l.length cB) (.slice A5 zs.length c5)
                  have hcl:=((HPV5.out.set3 (g:=w.heap.size+1) (fun a ha=>by have:=HP7M.out a ha;omega) (.slice A7 ps.length c7) (.slice AB l.length cB) (.slice A5 zs.length c5)).more (m':=(((wr.setCell ⟨w.heap.size+1,0,none⟩ (.slice A7 ps.length c7)).setCell ⟨w.heap.size+1,1,none⟩ (.slice AB l.length cB)).setCell ⟨w.heap.size+1,2,none⟩ (.slice A5 zs.length c5)).heap.size) (by rw [hsz];omega))
                  refine bodyPost_ret (AgL (v3:=.slice A4 L.length c4) (v4:=.nilIface) rfl rfl rfl RF.out) rfl ⟨.slice A7 ps.length c7,.slice AB l.length cB,.slice A5 zs.length c5,.slice A4 L.length c4,l,rfl,⟨A7,c7,rfl,HNP.out,HN7K.out,fun a ha=>by have:=HP7M.out a ha;omega,hcl⟩,(HVA.out.set3 hg2 _ _ _).base_ (by omega),⟨fun x hx=>⟨((HBO5.out.args x hx).1.set3 hg2 _ _ _).base_ (by omega),(HBO5.out.args x hx).2⟩⟩,?_,?_,?_,?_⟩
                  · rw [HLC.out]
                    unfold XE Dk
                    rw [az,HL.out]
                  · rw [←HZS.out]
                    exact (HV5.out.set3 (by omega) _ _ _).base_ (by omega)
                  · rw [←HL.out]
                    exact (HQ11.out.set3 (by omega) _ _ _).base_ (by omega)
                  · exact ((N11.out.setCell (p:=⟨w.heap.size+1,0,none⟩) (by show w.heap.size≤w.heap.size+1;omega) _).setCell (p:=⟨w.heap.size+1,1,none⟩) (by show w.heap.size≤w.heap.size+1;omega) _).setCell (p:=⟨w.heap.size+1,2,none⟩) (by show w.heap.size≤w.heap.size+1;omega) _
theorem AcI {t:Bool} {m c:Nat} {cs:List D} {A:Option Addr} (h:Ba w S (.row t s n cs) (.slice A m c)):A=none→c=0:=by
 cases h with
 | row _ _ hA2=>exact hA2
theorem AjQ {t:Bool} {A:Option Addr} {c:Nat} (h:Ba w S (Dw t bs) (.slice A l.length c)) (hc:Aj w w.heap.size A (Eg Bk.cells l)) (hl:l.length=bs.length):∀ b∈l,b.A=none→b.cap=0:=by
 unfold Dw at h
 rw [hl] at h
 cases h with
 | @row _ _ _ c cs A xs hcc hA hln hx hm hr =>
  intro b hb hbn
  obtain ⟨k,hk⟩:=List.mem_iff_getElem?.1 hb
  have hkl:=(gS.1 hk).1
  have hne:Ar (dBk t) bs≠[]:=fun h0=>by
   have:=congrArg List.length h0
   rw [VX (f:=dBk t) (s:=6) (fun _=>rfl)] at this
   simp at this
   omega
  obtain ⟨b1,off,rfl,hs,hcell⟩:=hm hne
  obtain ⟨b2,off2,e2,_,_,hcell2⟩:=hc (fun h0=>by
   have:=congrArg List.length h0
   rw [MZ (f:=Bk.cells) (s:=6) (fun _=>rfl)] at this
   simp at this
   omega)
  simp only [Option.some.injEq,Addr.mk.injEq,and_true] at e2
  obtain ⟨rfl,rfl⟩:=e2
  obtain ⟨y,hy⟩:∃ y,bs[k]?=some y:=⟨_,gE (by omega)⟩
  have hd1:(Ar (dBk t) bs)[k*6+1]?=some (AM t y.args):=by
   have:=EO (f:=dBk t) (s:=6) (fun _=>rfl) hy
   have h1:=congrArg (fun l=>l[1]?) this
   simp only [bq,cn] at h1
   simpa [dBk] using h1
  have hx1:k*6+1<xs.length:=by rw [←hx];exact (gS.1 hd1).1
  have hxg:xs[k*6+1]?=some xs[k*6+1]:=gE hx1
  have hcc1:=hcell _ _ hxg
  have hf:(Eg Bk.cells l)[k*6+1]?=some (.slice b.A b.args.length b.cap):=IB (f:=Bk.cells) (s:=6) (fun _=>rfl) hk (show 1<6 by decide)
  have hcc2:=hcell2 _ _ hf
  rw [hcc1] at hcc2
  have he:xs[k*6+1]=.slice b.A b.args.length b.cap:=Option.some.inj hcc2
  have hrel:=hr _ _ _ hd1 hxg
  rw [he] at hrel
  exact AcI hrel hbn
theorem AjR {e:Nat} {ds:List D} (h:w'.ownsRow w.heap.size e s v n xs) (hr:AP (Ba w' (VW w w')) ds xs):Ba w' (VW w w') (.row false s n ds) v:=by
 have hl:=h.1
 rcases h.2 with ⟨rfl,rfl⟩|⟨g,cap,cur,rfl,hb,hg,hnc,hcm,hcs,htk⟩
 ·have hx:xs=[]:=bj (by simpa using hl)
  subst hx
  have hd:ds=[]:=bj (by simpa using hr.1)
  subst hd
  exact .row [] (aa _) (fun _=>rfl) (by simp) rfl (fun h=>absurd rfl h) (fun j u x h=>by simp at h)
 ·have hlt:=(Array.getElem?_eq_some_iff.1 hg).1
  refine .row xs hnc (by simp) (by rw [hr.1];exact hl) hr.1 (fun _=>⟨g,0,rfl,⟨rfl,hb,hlt⟩,fun j x hj=>?_⟩) hr.2
  rw [ax,Pc h (gS.1 hj).1]
  exact hj
section
variable (bs:List Bk)
theorem ApB:BV (bs.map Bk.z)=BV bs:=by funext o i;unfold BV;rw [Pt,Aee]
theorem ApC:GP (bs.map Bk.z)=GP bs:=by funext o m i;unfold GP;rw [ApB]
theorem Abc (o:Bool):∀ k m,EJ (bs.map Bk.z) o k m=EJ bs o k m
 | 0,m=>rfl
 | k+1,m=>by
  unfold EJ Wg
  rw [ApC,ad]
  exact Abc o k _
theorem Zl (os:List Int):AG bs os=AG (bs.map Bk.z) os:=by unfold AG Vg;rw [Abc,ad]
theorem AlI (os:List Int):(Dk bs os).map OZ=(Dk (bs.map Bk.z) os).map OZ:=by
 unfold Dk
 rw [←Zl,bw,bw]
 refine cw fun i _=>?_
 show OZ (prB _ _)=OZ (prB _ _)
 rw [ag]
 cases bs[i]? <;> rfl
end
theorem AtM {l':List Bk} (h:l.map OZ=l'.map OZ):Ar (dBk false) l=Ar (dBk false) l':=by
 induction l generalizing l' with
 | nil=>cases l' with
  | nil=>rfl
  | cons y l'=>cases h
 | cons x l ih =>
  cases l' with
  | nil=>cases h
  | cons y l' =>
   simp only [br,List.cons.injEq] at h
   obtain ⟨h1,h2⟩:=h
   obtain ⟨e1,e2,e3,e4,e5,e6⟩:=AcE h1
   show dBk false x++Ar (dBk false) l=dBk false y++Ar (dBk false) l'
   rw [ih h2]
   unfold dBk
   rw [e1,e2,e3,e4,e5,e6]
theorem Abd {w w':World}:∀ {l:List Bk},(∀ x∈l,Dv w' w.heap.size (.slice x.A x.args.length x.cap) x.args∧x.args.length≤1000000)→AP (Ba w' (VW w w')) (Ar (dBk false) l) (Eg Bk.cells l)
 | [],_=>AP.nil_
 | x::l,h=>by
  have h1:AP (Ba w' (VW w w')) (dBk false x) (Bk.cells x):=.cons_ (.val rfl) (.cons_ (NK (h x (gp ..)).1) (.cons_ (.val rfl) (.cons_ (.val rfl) (.cons_ (.val rfl) (.cons_ (.val rfl) .nil_)))))
  exact h1.app (Abd fun y hy=>h y (gq _ hy))
theorem AjS (t:Bool) {ps:List Prt} {bs:List Bk} {os:List Int} (hl:EF ps bs os) (he:Av ps bs os=0):CVF prog An 7 [aDg t ps bs os] [aDg false ps (Dk bs os) (Oo bs os),.one (AM false (Br (AG bs os))),aE 0]:=fun w S vs hg hlt ha=>by
 obtain ⟨v,rfl,hv⟩:=CG ha
 obtain ⟨d,rfl,hd,rfl,hz,rfl,n1,n3⟩:=AmZ hlt hv hl
 have hn4:∀ b∈d.bs,b.A=none→b.cap=0:=by
  obtain ⟨xs,hx,hr⟩:=hv
  obtain ⟨v0,x1,rfl,q0,h⟩:=hr.uncons
  obtain ⟨v1,x2,rfl,q1,h⟩:=h.uncons
  obtain ⟨v2,x3,rfl,q2,h⟩:=h.uncons
  rw [h.unnil] at hx
  have hv1:v1=.slice d.A2 d.bs.length d.c2:=by
   have:=congrArg (fun v=>match v with|Value.agg cs=>cs[1]?|_=>none) hx
   simpa [Dg.val] using this.symm
  subst hv1
  exact AjQ q1 hd.bs (by rw [←ad (f:=Bk.z),hz,ad])
 have e1:Av d.ps d.bs d.os=0:=by rw [←Aef,hz,Aef];exact he
 have e2:AG d.bs d.os=AG bs d.os:=by rw [Zl d.bs,hz,←Zl bs]
 have e3:(Dk d.bs d.os).map OZ=(Dk bs d.os).map OZ:=by rw [AlI d.bs,hz,←AlI bs]
 have e4:Oo d.bs d.os=Oo bs d.os:=by unfold Oo;rw [e2]
 refine (AgR d _ w (aa _) hd hg ⟨n1,hn4⟩ e1).mono fun e w' ⟨v1,v2,v3,v,l,h1,⟨A,c,hA,hn,hc,hb,hcl⟩,h2,h3,h4,h5,h6,h7⟩=>?_
 subst hA
 refine ⟨_,h1,⟨[.agg #[.slice A d.ps.length c,v2,v3],v,.nilIface],rfl,.cons_ ⟨[.slice A d.ps.length c,v2,v3],rfl,.cons_ ?_ (.cons_ ?_ (.cons_ ?_ .nil_))⟩ (.cons_ ?_ (.cons_ (Ba.val rfl) .nil_))⟩,h7⟩
 ·unfold CU
  rw [Gy Mw]
  refine .row _ hc hn (by rw [ad];exact MZ (f:=Prt.cells) (s:=3) (fun _=>rfl) _) (by rw [ad]) (fun hne=>?_) (GV AgP).2
  obtain ⟨b,off,hA,_,hb2,hc2⟩:=hcl (fun h0=>hne (by rw [h0];rfl))
  exact ⟨b,off,hA,⟨rfl,hb _ hA,hb2⟩,hc2⟩
 ·have:=AjR h2 (Abd h3.args)
  have hln:l.length=(Dk bs d.os).length:=by rw [Vf h4,Vf e3]
  unfold Dw
  rw [←AtM (h4.trans e3),←hln]
  exact this
 ·rw [←e4];exact NK h5
 ·rw [←e2];exact NK h6
theorem Vi {p:Int × Nat} (h:Sm p LB LB):Cp p=false:=by
 have h1:=CZ.2 h.n
 have h2:=h.d
 unfold LB at h1 h2
 exact decide_eq_false (by omega)
theorem AcJ {y z:Bk} (h1:y.kind=z.kind) (h2:y.vn=z.vn) (h3:y.ve=z.ve) (h4:y.un=z.un) (h5:y.ue=z.ue) (h6:y.kind=0→y.args=z.args) (l:List (Int × Nat)) (ps:List Prt) (ins:List Int):Df y l ps ins=Df z l ps ins:=by
 unfold Df ZZ
 by_cases h:y.kind=0
 ·rw [if_pos h,if_pos (h1.symm.trans h),h6 h]
 ·rw [if_neg h,if_neg (fun hz=>h (h1.trans hz)),h1,h2,h3,h4,h5]
def AcK (bs:List Bk) (os:List Int) (st st':List (Int × Nat)):Prop :=
 st'.length=(AW (Dk bs os)).length∧∀ k' i' i:Nat,(AW (Dk bs os))[k']?=some i'→(AG bs os)[i']?=some i→∃ k:Nat,(AW bs)[k]?=some i∧st'[k']?=st[k]?
section
variable {ps:List Prt} {bs:List Bk} {os:List Int} {st st':List (Int × Nat)} {ins:List Int}
theorem ApD (h:i'<(Dk bs os).length):∃ i,(AG bs os)[i']?=some i:=by
 rw [Da] at h
 exact ⟨_,gE h⟩
theorem AgS (he:Av ps bs os=0) {i' i:Nat} (hi:(AG bs os)[i']?=some i) (hk:AQ (Dk bs os) i'=2):(AW bs)[(dlK bs i).length]?=some i:=by
 rw [Zk he hi] at hk
 exact AaA (Hd (gM hi)) hk
theorem AgT (he:Av ps bs os=0) (hl:st.length=(AW bs).length) (hn:∀ p∈st,Nf p.1 p.2) (ht:DK ps bs st ins=0) (hr:AcK bs os st st') :
  ∀ t,t≤(Bb (Dk bs os)).length→∀ i',SW (Dk bs os) t i'→∀ i,(AG bs os)[i']?=some i→∃ p,(IU ps (Dk bs os) st' ins t)[i']?=some (some p)∧(OV ps bs st ins)[i]?=some p:=by
 intro t
 induction t with
 | zero =>
  intro _ i' hs i hi
  rcases hs with ⟨h1,h2⟩|h1
  ·have hdr:=AaA h1 h2
   obtain ⟨k,hk,e⟩:=hr.2 _ _ _ hdr hi
   obtain ⟨p,hp⟩:∃ p,st[k]?=some p:=⟨_,gE (by rw [hl];exact (gS.1 hk).1)⟩
   refine ⟨p,?_,by rw [Afj hl hk,hp]⟩
   rw [WF,Aal (Te _) hr.1 (fun i hi=>by rw [dz];exact (Afi hi).1) hdr,e,hp]
   rfl
  ·simp at h1
 | succ t ih =>
  intro htl i' hs i hi
  by_cases hst:SW (Dk bs os) t i'
  ·rw [UA (Nat.le_succ t) htl hst]
   exact ih (by omega) i' hst i hi
  ·obtain ⟨j',hj'⟩:∃ j',(Bb (Dk bs os))[t]?=some j':=⟨_,gE (by omega)⟩
   have hji:j'=i':=by
    rcases hs with h1|h1
    ·exact absurd (.inl h1) hst
    ·rw [ak,hj'] at h1
     rcases List.mem_append.1 h1 with h1|h1
     ·exact absurd (.inr h1) hst
     ·exact (by simpa using h1:i'=j').symm
   subst hji
   obtain ⟨y,hy,hy'⟩:=He he hi
   have hkn:=(FP hj').2
   rw [Fh hy'] at hkn
   have hkn2:y.kind≠2:=hkn
   refine ⟨Vn ps (Dk bs os) st' ins t,?_,?_⟩
   ·rw [GD hj',ed (by rw [FQ];exact (FP hj').1)]
   ·rw [YK hj' hy',Afh he hl hn ht hy hkn2]
    congr 1
    have hargs:Lg (IU ps (Dk bs os) st' ins t) (prB (AG bs os) y)=AiI (OV ps bs st ins) y:=by
     unfold Lg AiI
     by_cases h0:y.kind=0
     ·rw [if_pos (show (prB (AG bs os) y).kind=0 from h0),if_pos h0]
     ·rw [if_neg (show ¬ (prB (AG bs os) y).kind=0 from h0),if_neg h0]
      have hpa:(prB (AG bs os) y).args=y.args.map (MW (AG bs os)):=if_neg h0
      rw [hpa,bw]
      refine cw fun a ha=>?_
      have hin:a.toNat∈AG bs os:=MY he (gM hi) (a:=a) (by rw [GY hy h0];exact ha)
      obtain ⟨r0,r1,r2⟩:=RD hin
      have hsplit:Bb (Dk bs os)=(Bb (Dk bs os)).take t++j'::(Bb (Dk bs os)).drop (t+1):=by
       obtain ⟨hlt,he⟩:=gS.1 hj'
       rw [←he,←dm hlt,gh]
      have hd:=PC hsplit (a:=MW (AG bs os) a) (by rw [GY hy' h0,hpa];exact fo ha)
      obtain ⟨p,p1,p2⟩:=ih (by omega) _ (hd.imp (fun h=>⟨by rw [Da];omega,h⟩) id) _ r2
      show ((IU ps (Dk bs os) st' ins t)[(MW (AG bs os) a).toNat]?.getD none).getD (0,0)=_
      rw [p1,p2]
      rfl
    rw [hargs]
    exact (AcJ (y:=prB (AG bs os) y) (z:=y) rfl rfl rfl rfl rfl (fun h=>if_pos (show y.kind=0 from h)) _ ps ins).symm
theorem AlJ (he:Av ps bs os=0) (hl:st.length=(AW bs).length) (hn:∀ p∈st,Nf p.1 p.2) (ht:DK ps bs st ins=0) (hr:AcK bs os st st') {i' i:Nat} (hi:(AG bs os)[i']?=some i):(OV ps (Dk bs os) st' ins)[i']?=(OV ps bs st ins)[i]?:=by
 obtain ⟨p,p1,p2⟩:=AgT he hl hn ht hr _ (aa _) i' (Aod (Abb he) (by rw [Da];exact (gS.1 hi).1)) i hi
 rw [p2]
 exact YB p1
theorem ApE (he:Av ps bs os=0) (hl:st.length=(AW bs).length) (hn:∀ p∈st,Nf p.1 p.2) (ht:DK ps bs st ins=0) (hr:AcK bs os st st') :
  DK ps (Dk bs os) st' ins=0∧AcK bs os (CL ps bs st ins) (CL ps (Dk bs os) st' ins)∧UB ps (Dk bs os) (Oo bs os) st' ins=UB ps bs os st ins:=by
 obtain ⟨h1,h2,h3⟩:=QW ht
 obtain ⟨h4,h5⟩:=WO h3
 have hV:=Aam he hl hn ht
 refine ⟨?_,⟨QX,fun k' i' i hk hi=>?_⟩,?_⟩
 ·unfold DK
  rw [if_neg (not_not_intro h1),if_neg (by rw [h2];decide),AeW (fun p hp=>?_) (fun t htl=>?_),if_neg (by decide)]
  ·obtain ⟨k',hk⟩:=List.mem_iff_getElem?.1 hp
   obtain ⟨i',hi'⟩:∃ i',(AW (Dk bs os))[k']?=some i':=⟨_,gE (by rw [←hr.1];exact (gS.1 hk).1)⟩
   obtain ⟨i,hi⟩:=ApD (FS hi').1
   obtain ⟨k,_,e⟩:=hr.2 _ _ _ hi' hi
   rw [hk] at e
   exact h4 p (gM e.symm)
  ·obtain ⟨j',hj'⟩:∃ j',(Bb (Dk bs os))[t]?=some j':=⟨_,gE htl⟩
   obtain ⟨i,hi⟩:=ApD (FP hj').1
   obtain ⟨p,p1,p2⟩:=AgT he hl hn ht hr (t+1) htl j' (.inr (by rw [ak,hj'];simp)) i hi
   rw [GD hj',ed (by rw [FQ];exact (FP hj').1)] at p1
   cases p1
   exact Vi (hV _ (gM p2))
 ·have hkd:=(FS hk).2
  have hrk:=AgS he hi hkd
  refine ⟨_,hrk,?_⟩
  obtain ⟨y,hy,hy'⟩:=He he hi
  rw [Zk he hi,Fh hy] at hkd
  obtain ⟨b,hA0,hbl⟩:=Uu he hy hkd
  have hin:b∈AG bs os:=by
   have:=MY he (gM hi) (a:=(b:Int)) (by rw [GY hy (by omega)];exact gM hA0)
   simpa using this
  obtain ⟨r0,r1,r2⟩:=RD (L:=AG bs os) (a:=(b:Int)) (by simpa using hin)
  have hpa:(prB (AG bs os) y).args[0]?=some (((MW (AG bs os) b).toNat:Nat):Int):=by
   rw [show (prB (AG bs os) y).args=y.args.map (MW (AG bs os)) from if_neg (by omega),ag,hA0,bp]
   congr 1;omega
  rw [YL hk,YL hrk,QU hy' hpa,QU hy hA0,AlJ he hl hn ht hr r2]
  simp
 ·unfold UB Oo
  rw [bw]
  refine cw fun o ho=>?_
  obtain ⟨r0,r1,r2⟩:=RD (Aba he ho)
  show ((OV ps (Dk bs os) st' ins)[(MW (AG bs os) o).toNat]?).getD (0,0)=_
  rw [AlJ he hl hn ht hr r2]
theorem AjT (he:Av ps bs os=0):AcK bs os (AO bs) (AO (Dk bs os)):=⟨by unfold AO;rw [ad],fun k' i' i hk hi=>by
 have hkd:=(FS hk).2
 have hrk:=AgS he hi hkd
 obtain ⟨y,hy,hy'⟩:=He he hi
 exact ⟨_,hrk,by rw [UE hk hy',UE hrk hy];rfl⟩⟩
theorem AlK (he:Av ps bs os=0):∀ {ls:List (List Int)} {st st':List (Int × Nat)},AiH bs st→AcK bs os st st'→Aan ps bs st ls=0→Aan ps (Dk bs os) st' ls=0∧Me ps (Dk bs os) (Oo bs os) st' ls=Me ps bs os st ls
 | [],st,st',_,_,_=>⟨rfl,rfl⟩
 | ins::l,st,st',h,hr,h0=>by
  have h':(if DK ps bs st ins=0 then Aan ps bs (CL ps bs st ins) l else DK ps bs st ins)=0:=h0
  by_cases h1:DK ps bs st ins=0
  ·rw [if_pos h1] at h'
   obtain ⟨q1,q2,q3⟩:=ApE he h.len h.nf h1 hr
   obtain ⟨q4,q5⟩:=AlK he (YM he h.len h.nf h1) q2 h'
   refine ⟨?_,?_⟩
   ·show (if DK ps (Dk bs os) st' ins=0 then Aan ps (Dk bs os) (CL ps (Dk bs os) st' ins) l else _)=0
    rw [if_pos q1];exact q4
   ·show UB ps (Dk bs os) (Oo bs os) st' ins::Me ps (Dk bs os) (Oo bs os) (CL ps (Dk bs os) st' ins) l=UB ps bs os st ins::Me ps bs os (CL ps bs st ins) l
    rw [q3,q5]
  ·rw [if_neg h1] at h';exact absurd h' h1
theorem AtN (hl:EF ps bs os):EF ps (Dk bs os) (Oo bs os):=⟨hl.l1,by rw [Da];exact lT (MV bs os) hl.l2,by unfold Oo;rw [ad];exact hl.l3,fun b hb=>by
 obtain ⟨i,hi,rfl⟩:=List.mem_map.1 hb
 have key:(bs[i]?.getD bk0).args.length≤1000000:=by
  cases h:bs[i]? with
  | none=>exact af _
  | some y=>exact hl.la y (gM h)
 unfold prB
 dsimp only
 split
 ·exact key
 ·rw [ad];exact key⟩
theorem ApF (he:Av ps bs os=0) {ls:List (List Int)} (h:NZ ps bs os ls=0):NZ ps (Dk bs os) (Oo bs os) ls=0∧Me ps (Dk bs os) (Oo bs os) (AO (Dk bs os)) ls=Me ps bs os (AO bs) ls:=by
 obtain ⟨_,h1,h2⟩:=Xl h
 obtain ⟨q1,q2⟩:=AlK he (IW he) (AjT he) (WR h2)
 refine ⟨?_,q2⟩
 unfold NZ
 rw [if_neg (not_not_intro (Abb he)),if_neg (by omega)]
 exact q1
end
theorem AgU {p q:Int→Bool}:∀ {l:List Int},(∀ a∈l,p a=q a)→l.all p=l.all q
 | [],_=>rfl
 | a::l,h=>by
  rw [ii,ii,h a (gp ..),AgU fun b hb=>h b (gq _ hb)]
structure Rn (F F':List Int) (R R':List Iq) (E E':List Pq) (y z:Bk):Prop where
 k:z.kind=y.kind
 vn:z.vn=y.vn
 ve:z.ve=y.ve
 un:z.un=y.un
 ue:z.ue=y.ue
 p0:y.kind=0→z.args=y.args
 al:y.kind≠0→∃ f:Int→Int,z.args=y.args.map f∧∀ a∈y.args,sG F' (f a)=sG F a∧rG R' (f a)=rG R a∧eG E' (f a)=eG E a
section
variable {F F':List Int} {R R':List Iq} {E E':List Pq} {y z:Bk} {ps:List Prt} {n:Nat}
theorem Rn.a0 (h:Rn F F' R R' E E' y z) (hk:AaC ps n y) (h0:y.kind≠0) (h1:y.kind≠1):sG F' (BJ z)=sG F (BJ y)∧rG R' (BJ z)=rG R (BJ y)∧eG E' (BJ z)=eG E (BJ y):=by
 obtain ⟨a,ha,e,_⟩:=hk.a0 h1
 obtain ⟨f,hf,hg⟩:=h.al h0
 have hx:BJ z=f a:=by unfold BJ;rw [hf,ag,ha];rfl
 rw [hx,e]
 exact hg a (gM ha)
theorem Rn.a1 (h:Rn F F' R R' E E' y z) (hk:AaC ps n y) (hb:y.kind=3∨y.kind=4∨y.kind=7∨y.kind=8∨y.kind=9):sG F' (DS z)=sG F (DS y)∧rG R' (DS z)=rG R (DS y)∧eG E' (DS z)=eG E (DS y):=by
 obtain ⟨a,ha,e,_⟩:=hk.a1 hb
 obtain ⟨f,hf,hg⟩:=h.al (by omega)
 have hx:DS z=f a:=by unfold DS;rw [hf,ag,ha];rfl
 rw [hx,e]
 exact hg a (gM ha)
theorem Rn.all (h:Rn F F' R R' E E' y z) (h0:y.kind≠0) (p:Int→Bool):(z.args.all fun a=>p (sG F' a))=y.args.all fun a=>p (sG F a):=by
 obtain ⟨f,hf,hg⟩:=h.al h0
 rw [hf,List.all_map]
 exact AgU fun a ha=>by show p (sG F' (f a))=_;rw [(hg a ha).1]
theorem Rn.p00 (h:Rn F F' R R' E E' y z) (h0:y.kind=0):BJ z=BJ y:=by unfold BJ;rw [h.p0 h0]
theorem Rn.shf (h:Rn F F' R R' E E' y z) (hk:AaC ps n y) (s:Int):Vp ps F' z s=Vp ps F y s:=by
 unfold Vp
 simp only [h.k,h.vn,h.ve,h.un,h.ue]
 by_cases h0:y.kind=0
 ·rw [if_pos h0,if_pos h0,h.p00 h0]
 rw [if_neg h0,if_neg h0]
 by_cases h1:y.kind=1
 ·rw [if_pos h1,if_pos h1]
 rw [if_neg h1,if_neg h1,h.all h0 (fun x=>inK (s - x))]
 have s0:=(h.a0 hk h0 h1).1
 simp only [s0]
 by_cases h7:y.kind=7
 ·have s1:=(h.a1 hk (by omega)).1
  simp only [s1]
 ·simp only [if_neg h7]
theorem Rn.scale (h:Rn F F' R R' E E' y z) (hk:AaC ps n y) {i i':Nat} (hi:scA F' i'=scA F i):Ex ps F' z i'=Ex ps F y i:=by
 unfold Ex
 rw [hi,h.shf hk,h.k]
 by_cases h0:y.kind=0
 ·rw [decide_eq_true h0,ir,ir]
 ·rw [h.all h0 frB]
theorem Rn.rng (h:Rn F F' R R' E E' y z) (hk:AaC ps n y):Nd ps R' z=Nd ps R y:=by
 unfold Nd
 rw [h.k,h.vn,h.ve]
 by_cases h2:y.kind=2
 ·rw [if_pos h2,if_pos h2,(h.a0 hk (by omega) (by omega)).2.1]
 rw [if_neg h2,if_neg h2]
 unfold Bx
 rw [h.k]
 by_cases h0:y.kind=0
 ·rw [if_pos h0,if_pos h0,h.p0 h0]
 rw [if_neg h0,if_neg h0]
 have e:Dh R' z=Dh R y:=by
  unfold Dh
  rw [h.k,if_neg h0,if_neg h0]
  obtain ⟨f,hf,hg⟩:=h.al h0
  rw [hf,bw]
  exact cw fun a ha=>(hg a ha).2.1
 rw [e]
 unfold FV
 simp only [h.k,h.vn,h.ve,h.un,h.ue]
theorem Rn.bound (h:Rn F F' R R' E E' y z) (hk:AaC ps n y) (s:Int):Bu ps F' R' E' z s=Bu ps F R E y s:=by
 unfold Bu mvP
 simp only [h.k,h.vn,h.ve,h.un,h.ue]
 by_cases h0:y.kind=0
 ·rw [if_pos h0,if_pos h0,h.p00 h0]
 by_cases h1:y.kind=1
 ·rw [if_neg h0,if_neg h0,if_pos h1,if_pos h1]
 obtain ⟨s0,r0,e0⟩:=h.a0 hk h0 h1
 simp only [if_neg h0,if_neg h1,s0,r0,e0]
 by_cases hb:y.kind=3∨y.kind=4∨y.kind=7∨y.kind=8∨y.kind=9
 ·obtain ⟨s1,r1,e1⟩:=h.a1 hk hb
  simp only [s1,r1,e1]
 ·simp only [if_neg (show ¬ (y.kind=3∨y.kind=4) by omega),if_neg (show ¬ (y.kind=8∨y.kind=9) by omega),if_neg (show ¬ y.kind=7 by omega)]
theorem Rn.fit (h:Rn F F' R R' E E' y z) (hk:AaC ps n y) {i i':Nat} (hi:scA F' i'=scA F i) (hR:R'[i']?.getD iZ=R[i]?.getD iZ) (hE:E'[i']?.getD (0,0)=E[i]?.getD (0,0)):AkV F' R' E' z i'=AkV F R E y i:=by
 unfold AkV
 rw [hi,hR,hE,h.k]
 by_cases h11:y.kind=11
 ·obtain ⟨_,r0,e0⟩:=h.a0 hk (by omega) (by omega)
  rw [r0,e0]
 ·rw [decide_eq_false h11]
  rfl
end
theorem ApG {bs':List Bk} {c c':Ct} {y z:Bk} (h:Rn c.F c'.F c.R c'.R c.E c'.E y z) (hk:AaC ps n y) (hy:bs[i]?=some y) (hz:bs'[i']?=some z) (hi:scA c'.F i'=scA c.F i) (hR:c'.R[i']?.getD iZ=c.R[i]?.getD iZ) (hE:c'.E[i']?.getD (0,0)=c.E[i]?.getD (0,0)):LZ ps bs' c' i'=LZ ps bs c i:=by
 unfold LZ
 rw [Gf hy,Gf hz]
 dsimp only
 unfold Di
 rw [h.scale hk hi,h.rng hk,h.bound hk,h.fit hk hi hR hE,hR,hE,hi]
def CN (L:List Nat) (c:Ct):Ct:=⟨L.map fun i=>scA c.F i,L.map fun i=>c.R[i]?.getD iZ,L.map fun i=>c.E[i]?.getD (0,0)⟩
section
variable {ps:List Prt} {bs:List Bk} {os:List Int} {c:Ct}
theorem Abe (h:L[i']?=some i):scA (CN L c).F i'=scA c.F i∧(CN L c).R[i']?.getD iZ=c.R[i]?.getD iZ∧(CN L c).E[i']?.getD (0,0)=c.E[i]?.getD (0,0):=by
 refine ⟨?_,?_,?_⟩
 ·show ((L.map _)[i']?).getD 0=_
  rw [ag,h];rfl
 ·show ((L.map _)[i']?).getD iZ=_
  rw [ag,h];rfl
 ·show ((L.map _)[i']?).getD (0,0)=_
  rw [ag,h];rfl
theorem AgV (he:Av ps bs os=0) {i' i:Nat} (hi:(AG bs os)[i']?=some i):LZ ps (Dk bs os) (CN (AG bs os) c) i'=LZ ps bs c i:=by
 obtain ⟨y,hy,hz⟩:=He he hi
 obtain ⟨e1,e2,e3⟩:=Abe (c:=c) hi
 refine ApG (y:=y) (z:=prB (AG bs os) y) ⟨rfl,rfl,rfl,rfl,rfl,fun h0=>if_pos h0,fun h0=>⟨MW (AG bs os),if_neg h0,fun a ha=>?_⟩⟩ (AfS he hy) hy hz e1 e2 e3
 have hin:a.toNat∈AG bs os:=MY he (gM hi) (a:=a) (by rw [GY hy h0];exact ha)
 obtain ⟨_,_,r2⟩:=RD hin
 exact Abe (c:=c) r2
theorem Vj (h:Aji bs c):Aji (Dk bs os) (CN (AG bs os) c):=by
 have hg:∀ i∈AG bs os,i<bs.length:=fun i hi=>Hd hi
 refine ⟨?_,?_,?_,fun p hp=>?_,fun p hp=>?_,fun p hp=>?_⟩
 ·show (List.map _ _).length=_;rw [ad,Da]
 ·show (List.map _ _).length=_;rw [ad,Da]
 ·show (List.map _ _).length=_;rw [ad,Da]
 ·obtain ⟨i,hi,rfl⟩:=List.mem_map.1 hp
  exact BP h.sR i
 ·obtain ⟨i,hi,rfl⟩:=List.mem_map.1 hp
  exact Ec h.sE i
 ·obtain ⟨i,hi,rfl⟩:=List.mem_map.1 hp
  have hlt:i<c.E.length:=by rw [h.lE];exact hg i hi
  rw [gE hlt]
  exact h.nE _ (ff hlt)
theorem AgW {a:Iq} (h:IwS a LB LB):Cp a.1=false∧Cp a.2=false:=⟨Vi h.s1,Vi h.s2⟩
theorem AlL (he:Av ps bs os=0) (h:Aji bs c):ckE ps bs os c.F (c.R.map Od) (c.E.map Ew)=0:=by
 unfold ckE
 rw [if_neg (not_not_intro he),if_pos ⟨h.lF,by rw [ad];exact h.lR,by rw [ad];exact h.lE⟩]
 refine Hc fun x hx=>?_
 obtain ⟨j,hj⟩:=dq hx
 rw [List.getElem?_zipWith,ag,ag] at hj
 rcases h1:c.R[j]? with _|a
 ·rw [h1] at hj;cases hj
 rcases h2:c.E[j]? with _|p
 ·rw [h1,h2] at hj;cases hj
 rw [h1,h2] at hj
 cases hj
 have sa:=h.sR a (gM h1)
 have sp:=h.sE p (gM h2)
 have np:=h.nE p (gM h2)
 have q1:ivC (Od a)=true:=Afq sa
 have q2:vdB (Ew p).rw=true:=QZ sp.ok
 have q3:rvP (Ew p)=p:=Hh p
 have q4:rvP (Od a).1=a.1:=Hh a.1
 have q5:rvP (Od a).2=a.2:=Hh a.2
 have hx:0≤p.1:=bz fun hn=>by
  have h3:0<(2:Int) ^ (GQ - p.2):=Bv _
  have h4:=kp (show p.1<0 by omega) h3
  unfold gv at np
  omega
 have hs:¬ sgI p.1<0:=by unfold sgI;(repeat' split) <;> omega
 unfold PL
 rw [q3,q4,q5,(AgW sa).1,(AgW sa).2,Vi sp,q1,q2]
 simp [hs]
theorem AtO (he:Av ps bs os=0) (h:Aji bs c):vfE ps bs os c.F (c.R.map Od) (c.E.map Ew)=(vfK ps bs c).isNone:=by
 unfold vfE
 rw [AlL he h,Ave,decide_eq_true rfl,eg]
theorem ApH (he:Av ps bs os=0) (h:Aji bs c) (hv:(vfK ps bs c).isNone=true):vfE ps (Dk bs os) (Oo bs os) (CN (AG bs os) c).F ((CN (AG bs os) c).R.map Od) ((CN (AG bs os) c).E.map Ew)=true:=by
 rw [AtO (Abb he) (Vj h)]
 rw [Option.isNone_iff_eq_none] at hv ⊢
 have h1:=Za.1 hv
 refine Za.2 fun i' hi'=>?_
 obtain ⟨i,hi⟩:=ApD hi'
 rw [AgV he hi]
 exact h1 i (Hd (gM hi))
theorem ApI (h:Aji bs c):∀ q∈(CN (AG bs os) c).R.map Od,RvL q.1∧RvL q.2:=Aaw (Vj (os:=os) h).sR (by decide)
theorem ApJ (h:Aji bs c):∀ r∈(CN (AG bs os) c).E.map Ew,RvL r:=fun r hr=>by
 obtain ⟨p,hp,rfl⟩:=List.mem_map.1 hr
 exact OD ((Vj (os:=os) h).sE p hp) (by decide)
end
theorem AjU (he:Av ps bs os=0):EF ps bs os:=by
 have hs:=IY he
 unfold CT at hs
 exact ⟨by omega,by omega,by omega,fun b hb=>by
  obtain ⟨i,hi⟩:=dq hb
  exact lT (AfS he hi).len (by decide)⟩
theorem AjV (x:Int) (d:Nat):Cf x d x d=0:=by
 rw [Ug]
 unfold Wd
 rw [Int.sub_self]
 rfl
theorem RE {α:Type} {f:Nat→α} {k:Nat} (h:L[k]?=some i):(L.map f).take (k+1)=(L.map f).take k++[f i]:=by
 rw [ak,ag,h]
 rfl
theorem AgX (l:List Iq):∀ d∈Ar (dIw false) l,Dn d:=fun d hd=>Ce (f:=dIw false) LV l d hd
theorem AjW {k:Nat} (h:L[k]?=some i):(Br L)[k]?=some (i:Int):=by unfold Br;rw [ag,h];rfl
theorem XF {α:Type} {f:α→List D} (l:List α) (a:α):(Ar f l).map C.d++(f a).map C.d=(Ar f (l++[a])).map C.d:=by
 rw [Fb,ct]
 congr 2
 show f a=f a++[]
 rw [av]
theorem Abf (k:p') (h:Hd9 p'→p:=by with_reducible first|(intro Z9;refine Tx 0 ?_;refine gN xBo <| gN xBo <| gO xA ?_;exact Z9.o)|(intro Z9;refine Tx 1 ?_;refine gO (xCl func5 (Ry)) <| gO (by first|exact xNt|exact xNg) <| gO xM ?_;(first|iterate 4 refine Jd ?_|(refine Jy (xFa DZ Cc) ?_;refine Jy (xLd Cc) ?_;refine Jy (xLn Ap) ?_;refine Jy xGt ?_));refine gO xPk <| gO xM ?_;(first|iterate 3 refine Jd ?_|(refine Jy xM1 ?_;refine Jy (xLn NF) ?_;refine Jy xGt ?_));refine gO xPk ?_;exact Z9.o)|fail):p:=h ⟨k⟩
theorem AlM (k:p') (h:Hd9 p'→p:=by with_reducible first|(intro Z9;refine Tx 3 ?_;refine gO xL <| gO xL <| gO (xCl func6 (VC)) <| gO xMt <| gO xEx <| gO (by exact Es rfl rfl rfl) <| gO xEx <| gN (xAl Ds) <| gO xA <| gZ (xSk Bw) <| gO xA ?_;exact Z9.o)|fail):p:=h ⟨k⟩
theorem AlN (k:p') (h:Hd9 p'→p:=by with_reducible first|(intro Z9;refine Tx 17 ?_;refine gO xL <| gO xL <| gO (by exact UV rfl func6 (by kernel_rfl) (by with_unfolding_all exact rfl) rfl VL2 (by with_unfolding_all exact (AX rfl rfl ⟨true,Dt rfl rfl (AX rfl rfl (Bp rfl (fun h=>by cases h)) (AX rfl rfl (Bp rfl (fun h=>by cases h)) (AX rfl rfl (Bp rfl (fun h=>by cases h)) (BM rfl rfl))))⟩ (AX rfl rfl ⟨false,Dt rfl rfl (AX rfl rfl (EI rfl rfl rfl (Lc rfl (Lb _))) (AX rfl rfl (EI rfl rfl rfl (Lc rfl (AgX _))) (AX rfl rfl (EI rfl rfl rfl (Lc rfl (Iy _))) (BM rfl rfl))))⟩ (BM rfl rfl))))) <| gO xMt <| gO xEx <| gO (by exact Es rfl rfl rfl) <| gO xEx <| gN (xAl Ds) <| gO xA <| gZ (xSk Bw) <| gO xA ?_;exact Z9.o)|(intro Z9;refine Tx 18 ?_;refine gO xM <| gO (xNE Ag) <| gO xM ?_;refine Jy xM1 ?_;refine Jy xM1 ?_;(first|iterate 2 refine Jd ?_|(refine Jy xM1 ?_;refine Jy (by first|exact xNt|exact xNg) ?_));refine Jy xPk ?_;refine gO xPk ?_;exact Z9.o)|fail):p:=h ⟨k⟩
theorem AlO (h:p:=by first|exact xCl func8 (RA)|exact xCl func8 (RB)):p:=h
theorem AlP (k:p') (h:Hd9 p'→p:=by with_reducible first|(intro Z9;refine Tx 20 ?_;refine gO xL <| gO xM <| gO AlO <| gO xMt <| gO xEx <| gO xEx <| gO xA <| gO xA ?_;exact Z9.o)|(intro Z9;refine Tx 21 ?_;refine gO xL <| gO xM <| gO AlO <| gO xMt <| gO xEx <| gO xEx <| gO xA <| gO xA ?_;exact Z9.o)|fail):p:=h ⟨k⟩
theorem AtP (k:p') (h:Hd9 p'→p:=by with_reducible first|(intro Z9;refine Tx 22 ?_;refine gO xM <| gO (xNE Ag) ?_;exact Z9.o)|(intro Z9;refine Tx 24 ?_;refine gO xM <| gO (xNE Ag) <| gO xM ?_;(first|iterate 5 refine Jd ?_|(refine Jy xM1 ?_;refine Jy (xLn BN) ?_;refine Jy xM1 ?_;refine Jy (xLn BN) ?_;refine Jy xNe ?_));refine gO xPk ?_;exact Z9.o)|(intro Z9;refine Tx 26 ?_;refine gO xM <| gO xN <| gO xM ?_;exact Z9.o)|fail):p:=h ⟨k⟩
theorem AtQ (k:p') (h:Hd9 p'→p:=by with_reducible first|(intro Z9;refine Tx 28 ?_;refine gO xM <| gO xA ?_;exact Z9.o)|(intro Z9;refine BB (id:=29) AJ (by kernel_rfl) ?_;refine gP xM <| gP xM <| gP (xIr BN (Rk hli)) <| gP xD <| gP xN <| gP xM <| gP xM <| gP (xIr BN (Rk hli)) <| gP xD <| gP xN <| gP xNe ?_;refine Ke ?_;exact Z9.o)|(intro Z9;refine Tx 31 ?_;refine gO xM <| gO xM <| gO (xIr BN (Rk hli)) <| gO xD <| gO xN <| gO xM ?_;exact Z9.o)|fail):p:=h ⟨k⟩
theorem AlQ (h:p:=by first|exact xIr BN (Rk hli)|exact xIr BN (OE hp)):p:=h
theorem AlR (h:p:=by first|exact xIr Af (OE hp)|exact xIr Af (Rk hli)):p:=h
theorem AtR (k:p') (h:Hd9 p'→p:=by with_reducible first|(intro Z9;refine Tx 33 ?_;refine gO xM <| gO xA ?_;exact Z9.o)|(intro Z9;refine BB (id:=34) AJ (by kernel_rfl) ?_;refine gP xM <| gP xM <| gP AlQ <| gP xD <| gP xM <| gP AlR <| gP xL <| gP xM <| gP xM <| gP AlQ <| gP xD <| gP xM <| gP AlR <| gP xL <| gP (xCl func9 (CM)) <| gP xNe ?_;refine Ke ?_;exact Z9.o)|(intro Z9;refine Tx 36 ?_;refine gO xAd <| gO xM ?_;exact Z9.o)|fail):p:=h ⟨k⟩
theorem AlS (h:p:=by
 by_cases hA:NZ ps bs os ls=0
 case neg =>
  repeat' (with_reducible first|refine qq ?_|refine AlP ?_|(refine Tx 22 ?_;refine gO xM <| gO (by first|exact Bn rfl Ag rfl (GM hA)|exact Bn rfl Ag rfl (OS (by first|rfl|omega))|exact Bn rfl Ag rfl (GM (by first|assumption|omega))|exact Bn rfl Ag rfl rfl) ?_)|(refine Tx 23 ?_;refine gO xA ?_))
  exact AN rfl (.cons_ (GI rfl (rfl)) .nil_)
 obtain ⟨hB,hO⟩:=ApF hd hA
 rw [hA,NW rfl] at RA
 rw [hB,NW rfl,hO] at RB
 have hrow:=AfR hd (IW hd) (Xl hA).2.2 (os:=os)
 have hrl:(Me ps bs os (AO bs) ls).length≤12:=by rw [UC];exact h12
 have hos:=(IY hd).2.2
 generalize Me ps bs os (AO bs) ls=R at *
 repeat' (with_reducible first|refine qq ?_|refine AlP ?_|refine AtP ?_)
 refine AY (Bz 0) (Aq (fun n Fr H=>∃ k:Nat,k≤R.length∧n=R.length - k∧Fr=ofL [(19,vd (AbS R)),(21,vd (AbS R)),(150,vi R.length),(151,vi ((k:Nat)))]∧H=[]) (n0:=R.length) ⟨0,af _,rfl,rfl,rfl⟩ ?_)
 clear RA RB VL2
 rintro n Fr H ⟨k,hk,rfl,rfl,rfl⟩
 by_cases hlt:k<R.length
 case pos =>
  obtain ⟨l,hli⟩:∃ l,R[k]?=some l:=⟨_,gE hlt⟩
  obtain ⟨hm1,hm2⟩:=hrow l (gM hli)
  repeat' (with_reducible first|refine qq ?_|(refine Tx 27 ?_;refine gO xLt ?_)|refine AtQ ?_)
  refine AY (Bz 0) (Aq (fun n Fr H=>∃ q:Nat,q≤l.length∧n=l.length - q∧Fr=ofL [(19,vd (AbS R)),(21,vd (AbS R)),(150,vi R.length),(151,vi ((k:Nat))),(23,vi ((k:Nat))),(169,vi l.length),(170,vi ((q:Nat)))]∧H=[]) (n0:=l.length) ⟨0,af _,rfl,rfl,rfl⟩ ?_)
  rintro n Fr H ⟨q,hq,rfl,rfl,rfl⟩
  by_cases hqt:q<l.length
  case pos =>
   obtain ⟨p,hp⟩:∃ p,l[q]?=some p:=⟨_,gE hqt⟩
   have sp:=hm1 p (gM hp)
   have CM:=Ck p.1 p.2 p.1 p.2 sp.ok sp.ok (sp.lenN 40000 (by decide)) (sp.lenN 40000 (by decide))
   rw [AjV] at CM
   repeat' (with_reducible first|refine qq ?_|(refine Tx 32 ?_;refine gO xLt ?_)|refine AtR ?_)
   refine ⟨_,_,Bz 0,_,?_,q+1,by omega,rfl,rfl,rfl⟩
   ·omega
  obtain rfl:q=l.length:=by omega
  repeat' (with_reducible first|refine qq ?_|(refine Tx 32 ?_;refine gO xLt ?_)|(refine Tx 37 ?_;refine gO xAd <| gO xM ?_))
  refine ⟨_,_,Bz 0,_,?_,k+1,by omega,rfl,rfl,rfl⟩
  ·omega
 obtain rfl:k=R.length:=by omega
 repeat' (with_reducible first|refine qq ?_|(refine Tx 27 ?_;refine gO xLt ?_)|(refine Tx 38 ?_;refine gO xA ?_))
 exact AN rfl (.cons_ (GI rfl (rfl)) .nil_)):p:=h
theorem Vk (ps:List Prt) (bs:List Bk) (os:List Int) (hb:Uh ps bs os) (F:List Int) (qs:List (Rv × Rv)) (rs:List Rv) (hwq:∀ q∈qs,RvB q.1∧RvB q.2) (hwr:∀ r∈rs,RvB r) (hFl:F.length≤17592186044416) (hQl:qs.length≤17592186044416) (hRl:rs.length≤17592186044416) (ls:List (List Int)) (hll:∀ l∈ls,l.length≤17592186044416) (hln:(ls.length:Int)≤9223372036854775807):CV prog An 3 [aDg true ps bs os,.agg (dCr false F qs rs),.one (ArY true ls)] [aB true]:=by
 refine cvz func3 ntmps3 ?_
 have hl1:=hb.l1
 have hl2:=hb.l2
 have hl3:=hb.l3
 by_cases h40:bs.length≤40
 case neg =>
  repeat' (with_reducible first|refine qq ?_|refine Abf ?_|(refine Tx 2 ?_;refine gO (xCl func5 (Ry)) <| gO xA ?_))
  exact AN rfl (.cons_ (GI rfl (rfl)) .nil_)
 by_cases h12:ls.length≤12
 case neg =>
  repeat' (with_reducible first|refine qq ?_|refine Abf ?_|(refine Tx 2 ?_;refine gO (xCl func5 (Ry)) <| gO xA ?_))
  exact AN rfl (.cons_ (GI rfl (rfl)) .nil_)
 have VC:=OH true hb F qs rs hwq hwr hFl hQl hRl
 generalize hz:vfP ps bs os F qs rs=zz at VC
 obtain ⟨z1,z2⟩:=zz
 clear hz
 dsimp only at VC
 by_cases h0:ckE ps bs os F qs rs=0
 case neg =>
  repeat' (with_reducible first|refine qq ?_|refine Abf ?_|refine AlM ?_|(refine Tx 4 ?_;refine gO xM <| gO (by first|exact Bn rfl Ag rfl (GM h0)|exact Bn rfl Ag rfl (OS (by first|rfl|omega))|exact Bn rfl Ag rfl (GM (by first|assumption|omega))|exact Bn rfl Ag rfl rfl) ?_)|(refine Tx 5 ?_;refine gO xA ?_))
  exact AN rfl (.cons_ (GI rfl (rfl)) .nil_)
 obtain ⟨hd,ok,hdc,_,_⟩:=AkZ hwq hwr h0
 have hv:vfE ps bs os F qs rs=(vfK ps bs (AcR F qs rs)).isNone:=by unfold vfE;rw [decide_eq_true h0,eg]
 rw [hv,h0,hdc] at VC
 rw [hdc]
 generalize AcR F qs rs=c at *
 clear hv h0 hdc hwq hwr hFl hQl hRl
 unfold dCt at VC ⊢
 have hl:=AjU hd
 have PR:=(AjS true hl hd).cv
 have hl':=AtN hl
 have hd':=Abb hd
 have e1:(Dk bs os).length=(AG bs os).length:=Da bs os
 have e2:(Br (AG bs os)).length=(AG bs os).length:=Cb _
 have e3:=MV bs os
 have e4:=ok.lF
 have e5:=ok.lR
 have e6:=ok.lE
 have hvl:=fun h=>ApH (os:=os) hd ok h
 have okl:=Vj (os:=os) ok
 have VL:=Rp false hl' (CN (AG bs os) c).F ((CN (AG bs os) c).R.map Od) ((CN (AG bs os) c).E.map Ew) (ApI ok) (ApJ ok) (by rw [okl.lF];exact hl'.l2) (by rw [ad,okl.lR];exact hl'.l2) (by rw [ad,okl.lE];exact hl'.l2)
 rw [AlL hd' okl,Atf] at VL
 generalize hw:vfE ps (Dk bs os) (Oo bs os) (CN (AG bs os) c).F ((CN (AG bs os) c).R.map Od) ((CN (AG bs os) c).E.map Ew)=wb at VL
 generalize vfP ps (Dk bs os) (Oo bs os) (CN (AG bs os) c).F ((CN (AG bs os) c).R.map Od) ((CN (AG bs os) c).E.map Ew)=zz at VL
 obtain ⟨z3,z4⟩:=zz
 dsimp only at VL
 rw [hw] at hvl
 unfold dCt AM at VL
 dsimp only at VL
 generalize hW:(vfK ps bs c).isNone=W at *
 have lF:(CN (AG bs os) c).F.length=(AG bs os).length:=by show (List.map _ _).length=_;rw [ad]
 have lR:(CN (AG bs os) c).R.length=(AG bs os).length:=by show (List.map _ _).length=_;rw [ad]
 have lE:(CN (AG bs os) c).E.length=(AG bs os).length:=by show (List.map _ _).length=_;rw [ad]
 rw [lF,lR,lE] at VL
 repeat' (with_reducible first|refine qq ?_|refine Abf ?_|refine AlM ?_|(refine Tx 4 ?_;refine gO xM <| gO (xNE Ag) ?_)|(refine Tx 6 ?_;refine gO xL <| gO (xCl func7 (PR)) <| gO xMt <| gO (by exact Es rfl rfl rfl) <| gO xEx <| gO xEx <| gN (xAl So) <| gZ (xSk DY) <| gO xA <| gO xA ?_)|(refine Tx 7 ?_;refine gO xM <| gO (xNE Ag) <| gO xM ?_;(first|iterate 6 refine Jd ?_|(refine Jy xM1 ?_;refine Jy (xLn Aa) ?_;refine Jy (xFa DZ Cc) ?_;refine Jy (xLd Cc) ?_;refine Jy (xLn Ap) ?_;refine Jy xNe ?_));refine gO xPk ?_)|(refine Tx 9 ?_;refine gN (xAl TK) ?_))
 refine AY (Gq 4 0 3 1 rfl rfl) ?_
 refine AY (Gq 4 1 45 6 rfl rfl) ?_
 refine AY (Gq 4 2 43 3 rfl rfl) ?_
 repeat' (with_reducible first|refine qq ?_|(refine Tx 10 ?_;refine gO xM <| gO xN <| gO xM ?_))
 have VL2:=VL
 clear VL VC PR
 rw [e2]
 refine AY (Bz 8) (Aq (fun n Fr H=>∃ k:Nat,k≤(AG bs os).length∧n=(AG bs os).length - k∧Fr=ofL [(2,vd (ArY true ls)),(3,vr 0),(4,vr 1),(7,vd (.val (.bool W))),(10,vr 3),(13,vr 4),(64,vd (AM false (Br (AG bs os)))),(65,vi ((AG bs os).length)),(66,vi ((k:Nat)))]∧H=[.box 26 [.d (CU true ps),.d (Dw true bs),.d (AM true os)],.box 30 [.d (AM false c.F),.d (.row false 6 c.R.length (Ar (dIw false) c.R)),.d (.row false 3 c.E.length (Ar dyP c.E))],.box 34 [.d (dI z1),.d (dI z2)],.box 26 [.d (CU false ps),.d (Dw false (Dk bs os)),.d (AM false (Oo bs os))],.box 30 [.own 5 (k),.own 6 (k),.own 7 (k)],.row 3 1 (k) ((((CN (AG bs os) c).F.take (k)).map dI).map C.d),.row 45 6 (k) ((Ar (dIw false) ((CN (AG bs os) c).R.take (k))).map C.d),.row 43 3 (k) ((Ar dyP ((CN (AG bs os) c).E.take (k))).map C.d)]) (n0:=(AG bs os).length) ⟨0,af _,rfl,rfl,rfl⟩ ?_)
 rintro n Fr H ⟨k,hk,rfl,rfl,rfl⟩
 by_cases hlt:k<(AG bs os).length
 case pos =>
  obtain ⟨i,hi⟩:∃ i,(AG bs os)[k]?=some i:=⟨_,gE hlt⟩
  have hib:=Hd (gM hi)
  have hki:=AjW hi
  obtain ⟨f,hf⟩:∃ f,c.F[i]?=some f:=⟨_,gE (by omega)⟩
  obtain ⟨r,hr⟩:∃ r,c.R[i]?=some r:=⟨_,gE (by omega)⟩
  obtain ⟨x,hx⟩:∃ x,c.E[i]?=some x:=⟨_,gE (by omega)⟩
  have n1:(CN (AG bs os) c).F.take (k+1)=(CN (AG bs os) c).F.take k++[f]:=by rw [show f=scA c.F i from (FO hf).symm];exact RE hi
  have n2:(CN (AG bs os) c).R.take (k+1)=(CN (AG bs os) c).R.take k++[r]:=by rw [show r=c.R[i]?.getD iZ by rw [hr];rfl];exact RE hi
  have n3:(CN (AG bs os) c).E.take (k+1)=(CN (AG bs os) c).E.take k++[x]:=by rw [show x=c.E[i]?.getD (0,0) by rw [hx];rfl];exact RE hi
  have a1:(((CN (AG bs os) c).F.take k).map dI).map C.d++[dI f].map C.d=(((CN (AG bs os) c).F.take (k+1)).map dI).map C.d:=by rw [n1,ct,ct];rfl
  have a2:(Ar (dIw false) ((CN (AG bs os) c).R.take k)).map C.d++(dIw false r).map C.d=(Ar (dIw false) ((CN (AG bs os) c).R.take (k+1))).map C.d:=by rw [n2];exact XF _ _
  have a3:(Ar dyP ((CN (AG bs os) c).E.take k)).map C.d++(dyP x).map C.d=(Ar dyP ((CN (AG bs os) c).E.take (k+1))).map C.d:=by rw [n3];exact XF _ _
  repeat' (with_reducible first|(refine Avm (id:=15) TX 28 (fun H=>∃ r1 r2 r3:Ob,H=[.box 26 [.d (CU true ps),.d (Dw true bs),.d (AM true os)],.box 30 [.d (AM false c.F),.d (.row false 6 c.R.length (Ar (dIw false) c.R)),.d (.row false 3 c.E.length (Ar dyP c.E))],.box 34 [.d (dI z1),.d (dI z2)],.box 26 [.d (CU false ps),.d (Dw false (Dk bs os)),.d (AM false (Oo bs os))],.box 30 [.own 5 (k),.own 6 (k),.own 7 (k)],r1,r2,r3]) ⟨_,_,_,rfl⟩ AJ (by kernel_rfl) ?_;dsimp only [List.take,List.drop];refine OY (fun H2 hI2=>(by obtain ⟨_,_,_,rfl⟩:=hI2;first|exact xFa Ei Ax)) ?_;refine OY (fun H2 hI2=>(by obtain ⟨_,_,_,rfl⟩:=hI2;first|exact xLd Ax)) ?_;refine OY (fun H2 hI2=>(by obtain ⟨_,_,_,rfl⟩:=hI2;first|exact xFa Ei Ax)) ?_;refine OY (fun H2 hI2=>(by obtain ⟨_,_,_,rfl⟩:=hI2;first|exact xLd Ax)) ?_;refine OY (fun H2 hI2=>(by obtain ⟨_,_,_,rfl⟩:=hI2;first|exact Qt rfl rfl)) ?_;refine OY (fun H2 hI2=>(by obtain ⟨_,_,_,rfl⟩:=hI2;first|exact xIr Aa (AF hf)|exact xIr Aa (AF hf)|exact xIr Aa (GZ hr)|exact xIr Aa (OE hx))) ?_;refine OY (fun H2 hI2=>(by obtain ⟨_,_,_,rfl⟩:=hI2;first|exact xLd Al|exact xLd Al)) ?_;refine OY (fun H2 hI2=>(by obtain ⟨_,_,_,rfl⟩:=hI2;first|exact AbQ rfl rfl Aa BK|exact AZ rfl Aa BK rfl rfl (by decide) (by decide))) ?_;refine Avl (by exact (by with_unfolding_all exact Zf (n:=k) rfl rfl rfl rfl Aa BK (by omega) rfl a1)) ?_;refine OY (fun H2 hI2=>(by obtain ⟨_,_,_,rfl⟩:=hI2;first|exact xFa Ph Bh)) ?_;refine OY (fun H2 hI2=>(by obtain ⟨_,_,_,rfl⟩:=hI2;first|exact xLd Bh)) ?_;refine OY (fun H2 hI2=>(by obtain ⟨_,_,_,rfl⟩:=hI2;first|exact xFa Ph Bh)) ?_;refine OY (fun H2 hI2=>(by obtain ⟨_,_,_,rfl⟩:=hI2;first|exact xLd Bh)) ?_;refine OY (fun H2 hI2=>(by obtain ⟨_,_,_,rfl⟩:=hI2;first|exact Qt rfl rfl)) ?_;refine OY (fun H2 hI2=>(by obtain ⟨_,_,_,rfl⟩:=hI2;first|exact xIr Ah (GZ hr)|exact xIr Ah (GZ hr)|exact xIr Ah (OE hx))) ?_;refine OY (fun H2 hI2=>(by obtain ⟨_,_,_,rfl⟩:=hI2;first|exact xLa Ae|exact xLa Ae)) ?_;refine OY (fun H2 hI2=>(by obtain ⟨_,_,_,rfl⟩:=hI2;first|exact Rx (ds:=dIw false r) rfl rfl Ah Am rfl (by decide) (by decide)|exact AZ rfl Ah Am rfl rfl (by decide) (by decide))) ?_;refine Avl (by exact (by with_unfolding_all exact Zf (n:=k) rfl rfl rfl rfl Ah Am (by omega) rfl a2)) ?_;refine OY (fun H2 hI2=>(by obtain ⟨_,_,_,rfl⟩:=hI2;first|exact xFa Ej Ao)) ?_;refine OY (fun H2 hI2=>(by obtain ⟨_,_,_,rfl⟩:=hI2;first|exact xLd Ao)) ?_;refine OY (fun H2 hI2=>(by obtain ⟨_,_,_,rfl⟩:=hI2;first|exact xFa Ej Ao)) ?_;refine OY (fun H2 hI2=>(by obtain ⟨_,_,_,rfl⟩:=hI2;first|exact xLd Ao)) ?_;refine OY (fun H2 hI2=>(by obtain ⟨_,_,_,rfl⟩:=hI2;first|exact Qt rfl rfl)) ?_;refine OY (fun H2 hI2=>(by obtain ⟨_,_,_,rfl⟩:=hI2;first|exact xIr Af (OE hx)|exact xIr Af (GZ hr)|exact xIr Af (OE hx))) ?_;refine OY (fun H2 hI2=>(by obtain ⟨_,_,_,rfl⟩:=hI2;first|exact xLa Ab|exact xLa Ab)) ?_;refine OY (fun H2 hI2=>(by obtain ⟨_,_,_,rfl⟩:=hI2;first|exact Rx (ds:=dyP x) rfl rfl Af Ak rfl (by decide) (by decide)|exact AZ rfl Af Ak rfl rfl (by decide) (by decide))) ?_;refine Avl (by exact (by with_unfolding_all exact Zf (n:=k) rfl rfl rfl rfl Af Ak (by omega) rfl a3)) ?_;refine OY (fun H2 hI2=>(by obtain ⟨_,_,_,rfl⟩:=hI2;first|exact xFa Ei Ax)) ?_;refine AtC ?_;refine gZ (by first|exact xS1 Ax|exact xSk Ax) <| gO xF <| gZ (by first|exact xS1 Bh|exact xSk Bh) <| gO xF <| gZ (by first|exact xS1 Ao|exact xSk Ao) ?_)|refine qq ?_|(refine Tx 11 ?_;refine gO xLt ?_)|(refine Tx 12 ?_;refine gO (xIr Aa (AF hki)) <| gO xD <| gO xA ?_)|(refine Tx 13 ?_;refine gO xM <| gO xLt <| gO xM ?_;(first|iterate 5 refine Jd ?_|(refine Jy xM1 ?_;refine Jy (xFa Ei Ax) ?_;refine Jy (xLd Ax) ?_;refine Jy (xLn Aa) ?_;refine Jy xGe ?_));refine gO xPk ?_)|(refine Tx 16 ?_;refine gO xAd <| gO xM ?_))
  refine ⟨_,_,Bz 8,_,by omega,k+1,by omega,rfl,rfl,rfl⟩
 obtain rfl:k=(AG bs os).length:=by omega
 clear hlt hk
 rw [am (dp lF),am (dp lR),am (dp lE)]
 have RA:=Afm true true true hl ls hll (by omega)
 have RB:=Afm false true true hl' ls hll (by omega)
 cases W
 case false =>
  repeat' (with_reducible first|refine qq ?_|(refine Tx 11 ?_;refine gO xLt ?_)|refine AlN ?_)
  exact AlS
 have hwt:=hvl rfl
 subst hwt
 repeat' (with_reducible first|refine qq ?_|(refine Tx 11 ?_;refine gO xLt ?_)|refine AlN ?_)
 exact AlS
def Vq (w:World):Dm:=fun _ b=>b<w.heap.size
theorem Vq.of {x:A} (h:EA w (Apy w) x v):EA w (Vq w) x v:=h.mono (fun _ _ hb=>hb.2) fun _ _ _=>rfl
theorem ApK {f:FuncId} {args:List A} (h:CV prog An f args [aB true]) {w:World} (ht:An w) {vs:List Value} (ha:AP (EA w (Vq w)) args vs) :
  Calls prog f vs.toArray w fun e w'=>e=.returned (.bool true)∧Below w.heap.size w w' :=
 (h w _ vs ht (fun t b hb=>hb) ha).mono fun e w' ⟨v,h1,h2,h3⟩=>by
  have h4:Ba w' _ (dB true) v:=h2
  cases h4
  exact ⟨h1,h3⟩
structure XI (α:Type) (s:Nat) where
 cs:List Value
 len:cs.length=s
 a:α
instance {α:Type} {s:Nat} [Inhabited α]:Inhabited (XI α s):=⟨⟨List.replicate s undef,dz,default⟩⟩
section
variable {H:Type} {enc:TypeId × Value→H} {P:Program} {w:World} {spare:Nat→Bool} {held:Bool}
theorem Vl {A:Option Addr} {c:Nat} {cs:List D} (h:Aj w w.heap.size A xs) (hc:n≤c) (hA:A=none→c=0) (hl:cs.length=n*s) (hr:AP (Ba w (Vq w)) cs xs):Ba w (Vq w) (.row tg s n cs) (.slice A n c):=by
 refine .row xs hc hA hl hr.1 (fun hne=>?_) hr.2
 obtain ⟨b,off,h1,_,h2,h3⟩:=h (fun h0=>hne (by have:=hr.1;rw [h0] at this;exact bj (by simpa using this)))
 exact ⟨b,off,h1,h2,h3⟩
end
theorem ApL (h:n≤maxLen):(n:Int)≤9223372036854775807:=by unfold maxLen at h;omega
theorem AgY {α:Type} (f:α→D) (l:List α):Ar (fun a=>[f a]) l=l.map f:=by
 induction l with
 | nil=>rfl
 | cons a l ih=>show f a::Ar (fun a=>[f a]) l=f a::l.map f;rw [ih]
section
variable {H:Type} {enc:TypeId × Value→H} {w:World} {spare:Nat→Bool} {held:Bool}
theorem AgZ {A:Option Addr} {ws:List Nat} {c:Nat} (h:Aj w w.heap.size A (w32 ws)) (hc:ws.length≤c) (hA:A=none→c=0):Ba w (Vq w) (.row tg 1 ws.length (ws.map dW)) (.slice A ws.length c):=by
 rw [←AbF]
 exact Vl h hc hA (by rw [ad,PP,cz]) (GV fun v hv=>Ym hv)
theorem Aha (tg:Bool) {r:Rw} (h:ApQ w w.heap.size r):AP (Ba w (Vq w)) (dRv tg ⟨r.nb,r.ws,r.den⟩) r.cells :=
 .cons_ (.val rfl) (.cons_ (AgZ h.at_ h.fit h.nul) (.cons_ (.val rfl) .nil_))
instance:Inhabited Rv:=⟨⟨false,[],0⟩⟩
end
section
variable {H:Type} {enc:TypeId × Value→H} {P:Program} {w:World} {spare:Nat→Bool} {held:Bool}
def WOk (P:Program) (t:TypeId) (d:DataW H):Prop:=∀ k∈DataW.weights P t d,k≤reachBytes
theorem Ahb {e:TypeId}:∀ {l:List (DataW H)},(∀ k∈DataW.weightsAll P e l,k≤reachBytes)→∀ d∈l,WOk P e d
 | [],_,_,hd=>by cases hd
 | x::l,h,d,hd=>by
  simp only [DataW.weightsAll,eo] at h
  rcases List.mem_cons.1 hd with rfl|hd
  ·exact fun k hk=>h k (.inl hk)
  ·exact Ahb (fun k hk=>h k (.inr hk)) d hd
theorem Nb:∀ {ts:List TypeId} {l:List (DataW H)},(∀ k∈DataW.weightsEach P ts l,k≤reachBytes)→∀ (i:Nat) (t:TypeId) (d:DataW H),ts[i]?=some t→l[i]?=some d→WOk P t d
 | [],_,_,i,t,d,ht,_=>by simp at ht
 | _::_,[],_,i,t,d,_,hd=>by simp at hd
 | t0::ts,d0::l,h,i,t,d,ht,hd=>by
  simp only [DataW.weightsEach,eo] at h
  rcases i with _|i
  ·simp only [eb,Option.some.injEq] at ht hd
   subst ht
   subst hd
   exact fun k hk=>h k (.inl hk)
  ·exact Nb (fun k hk=>h k (.inr hk)) i t d (by simpa using ht) (by simpa using hd)
theorem ApM {t:TypeId} {a b:List (DataW H)} (ht:P.underlying t=some (.slice e)) (h:WOk P t (.slice a b)):(a.length+b.length)*P.bytesOf e≤reachBytes:=by
 refine h _ ?_
 simp only [DataW.weights,ht]
 exact gp ..
theorem AjX {t:TypeId} {a b:List (DataW H)} {d:DataW H} (ht:P.underlying t=some (.slice e)) (h:WOk P t (.slice a b)) (hd:d∈a):WOk P e d:=by
 refine Ahb (l:=a) (fun k hk=>h k ?_) d hd
 simp only [DataW.weights,ht]
 exact gq _ (List.mem_append_left _ hk)
theorem En {t:TypeId} {fs:Array Field} {l:List (DataW H)} {f:Field} {d:DataW H} (ht:P.underlying t=some (.struct fs)) (h:WOk P t (.agg l)) (hf:fs[i]?=some f) (hd:l[i]?=some d):WOk P f.type d:=by
 refine Nb (ts:=fs.toList.map (·.type)) (l:=l) (fun k hk=>h k ?_) i f.type d (by simp [hf]) hd
 simp only [DataW.weights,ht]
 exact hk
theorem Ef {t:TypeId} {c:Nat} {A:Option Addr} {x:DataW H × List MemPlace} (ht:P.underlying t=some (.slice e)) (h:DataW.trod enc P w 0 spare held fuel t [.slice A n c]=some x) (hW:WOk P t x.1):n*P.bytesOf e≤reachBytes:=by
 rcases open_slice ht h with ⟨hcs,_⟩|⟨a,len,cap,m,n',D,Pl,hcs,_,hl,hm,hmm,hxe,_⟩
 ·simp only [List.cons.injEq,Value.slice.injEq,and_true] at hcs
  rw [hcs.2.1,ep]
  exact af _
 ·simp only [List.cons.injEq,Value.slice.injEq,and_true] at hcs
  rw [hcs.2.1]
  rw [hxe] at hW
  refine lT (jo _ ?_) (ApM ht hW)
  simp
theorem AtS {α:Type} [Inhabited α] {Q:α→List Value→Prop} (hs0:0<s) {t e:TypeId} {fuel:Nat} {v:Value} {x:DataW H × List MemPlace} (ht:P.underlying t=some (.slice e)) (hC:P.cellsOf e=s)
  (hrow:∀ (fuel:Nat) (cs:List Value) (x:DataW H × List MemPlace),DataW.trod enc P w 0 spare held fuel e cs=some x→cs.length=s→WOk P e x.1→∃ a,Q a cs)
  (h:DataW.trod enc P w 0 spare held fuel t [v]=some x) (hW:WOk P t x.1) :
  ∃ (A:Option Addr) (cap:Nat) (l:List (XI α s)),v=.slice A l.length cap∧(A=none→cap=0)∧l.length≤cap∧l.length≤maxLen∧Aj w w.heap.size A (Eg XI.cs l)∧∀ x∈l,Q x.a x.cs:=by
 rcases open_slice ht h with ⟨hcs,_⟩|⟨a,len,cap,m,n,D,Pl,hcs,_,hl,hm,hmm,hxe,hx⟩
 ·exact ⟨none,0,[],by simpa using hcs,fun _=>rfl,aa _,af _,Aj.nil_,by simp⟩
 ·have hW2:WOk P t (.slice ((List.range len).map D) ((List.range (m - len)).map fun j=>D (len+j))):=by
   have h1:=hW
   rw [hxe] at h1
   exact h1
  have hle:len≤m:=by rw [hmm];split <;> omega
  rw [hC] at hx
  obtain ⟨R,hR⟩:=choose_lt (α:=XI α s) (n:=len) (p:=fun i b=>Q b.a b.cs∧∀ j,j<s→w.cell? (a.add (i*s+j))=b.cs[j]?) (fun i hi=>by
   obtain ⟨cs',h1,h2⟩:=hx i (by omega)
   obtain ⟨_,hlen,hcell⟩:=World.cells?_some h1
   obtain ⟨b,hb⟩:=hrow _ _ _ h2 (by simpa using hlen) (AjX ht hW2 (fo (List.mem_range.2 hi)))
   exact ⟨⟨cs',by simpa using hlen,b⟩,hb,fun j hj=>by rw [←add_add];exact hcell j hj⟩)
  refine ⟨some a,cap,(List.range len).map R,by simpa using hcs,by simp,by simpa using hl,by simp;omega,fun hne=>?_,?_⟩
  ·have hpos:0<len:=by
    rcases co len with h0|h0
    ·subst h0;simp [Eg] at hne
    ·exact h0
   obtain ⟨b,off,spot⟩:=a
   have h00:=(hR 0 hpos).2 0 hs0
   have hz0:(R 0).cs[0]?=some ((R 0).cs[0]'(by rw [(R 0).len];exact hs0)):=gE _
   rw [hz0] at h00
   have hspot:spot=none:=by simpa [Addr.add] using World.cell?_spot h00
   subst hspot
   have hb:b<w.heap.size:=by
    rcases bf b w.heap.size with h|h
    ·exact h
    ·simp [World.cell?,Addr.add,fb h] at h00
   refine ⟨b,off,rfl,hb,hb,fun j u hu=>?_⟩
   have hjl:j<len*s:=by
    have:=(gS.1 hu).1
    rw [TU (f:=XI.cs) (s:=s) (fun x=>x.len)] at this
    simpa using this
   have hk:j / s<len:=Nat.div_lt_of_lt_mul (by rw [ay];exact hjl)
   have hr:j % s<s:=fy _ hs0
   have hj:j / s*s+j % s=j:=by rw [ay];exact ek j s
   have hg:((List.range len).map R)[j / s]?=some (R (j / s)):=by simp [hk]
   have h1:=IB (f:=XI.cs) (s:=s) (fun x=>x.len) hg hr
   rw [hj,hu] at h1
   have h2:=(hR _ hk).2 (j % s) hr
   rw [hj,←h1] at h2
   rw [←Go.WideShapes.add_plain]
   exact h2
  ·intro y hy
   obtain ⟨i,hi,rfl⟩:=List.mem_map.1 hy
   exact (hR i (by simpa using hi)).1
theorem Ahc {α:Type} [Inhabited α] (f:α→List D) (Q:α→Prop) {s:Nat} {tg:Bool} (hs0:0<s) (hfl:∀ a,(f a).length=s) {t e:TypeId} {fuel:Nat} {v:Value} {x:DataW H × List MemPlace} (ht:P.underlying t=some (.slice e)) (hC:P.cellsOf e=s)
  (hrow:∀ (fuel:Nat) (cs:List Value) (x:DataW H × List MemPlace),DataW.trod enc P w 0 spare held fuel e cs=some x→cs.length=s→WOk P e x.1→∃ a,Q a∧AP (Ba w (Vq w)) (f a) cs)
  (h:DataW.trod enc P w 0 spare held fuel t [v]=some x) (hW:WOk P t x.1):∃ l:List α,Ba w (Vq w) (.row tg s l.length (Ar f l)) v∧(∀ a∈l,Q a)∧l.length≤maxLen:=by
 obtain ⟨A,cap,l,rfl,hA,hc,hm,hcl,hQ⟩:=AtS (Q:=fun a cs=>Q a∧AP (Ba w (Vq w)) (f a) cs) hs0 ht hC hrow h hW
 refine ⟨l.map XI.a,?_,fun a ha=>?_,by rw [ad];exact hm⟩
 ·have key:∀ l:List (XI α s),(∀ x∈l,Q x.a∧AP (Ba w (Vq w)) (f x.a) x.cs)→AP (Ba w (Vq w)) (Ar f (l.map XI.a)) (Eg XI.cs l):=fun l=>by
   induction l with
   | nil=>intro _;exact AP.nil_
   | cons y l ih=>intro hq;exact (hq y (gp ..)).2.app (ih fun z hz=>hq z (gq _ hz))
  have:=Vl (tg:=tg) (n:=(l.map XI.a).length) hcl (by rw [ad];exact hc) hA (VX (f:=f) hfl _) (key l hQ)
  rwa [ad] at this ⊢
 ·obtain ⟨y,hy,rfl⟩:=List.mem_map.1 ha
  exact (hQ y hy).1
end
theorem XG {cs:List D} (h:Ba w S (.row tg s n cs) v):∃ A c,v=.slice A n c:=by
 cases h
 exact ⟨_,_,rfl⟩
section
variable {H:Type} {enc:TypeId × Value→H} {w:World} {spare:Nat→Bool} {held:Bool}
theorem RH {b:Nat} (B:Nat) (h:n*b≤reachBytes) (hB:reachBytes<(B+1)*b):n≤B:=by
 rcases bf B n with hn|hn
 ·have:=jo b (show B+1≤n by omega)
  omega
 ·exact hn
theorem Zm {cs:List Value} {x:DataW H × List MemPlace} (h:DataW.trod enc prog w 0 spare held fuel 43 cs=some x) (hW:WOk prog 43 x.1) (r:Rw) (hr:cs=r.cells):r.ws.length≤35184372087808:=by
 obtain ⟨xs,n,_,hx,_,hxl,hg⟩:=il underlying43 h
 rw [hx] at hW
 obtain ⟨y,hy⟩:∃ y,xs[1]?=some y:=⟨_,gE (by rw [hxl];decide)⟩
 have g1:=hg 1 _ rfl
 rw [hy,hr] at g1
 have g2:DataW.trod enc prog w 0 spare held n 41 [.slice r.A r.ws.length r.cap]=some y:=g1
 have w1:WOk prog 41 y.1:=En underlying43 hW (i:=1) rfl (by rw [ag,hy];rfl)
 have:=Ef underlying41 g2 w1
 rw [show prog.bytesOf 143=4 by kernel_rfl] at this
 exact RH _ this (by decide)
theorem ApN (tg:Bool) {fuel:Nat} {cs:List Value} {x:DataW H × List MemPlace} (h:DataW.trod enc prog w 0 spare held fuel 43 cs=some x) (hW:WOk prog 43 x.1):∃ r:Rv,RvB r∧AP (Ba w (Vq w)) (dRv tg r) cs:=by
 obtain ⟨r,rfl,h1,h2,h3⟩:=AeG h
 exact ⟨⟨r.nb,r.ws,r.den⟩,⟨h1.ok,Zm h hW r rfl⟩,Aha tg h1⟩
theorem ApO (tg:Bool) {fuel:Nat} {cs:List Value} {x:DataW H × List MemPlace} (h:DataW.trod enc prog w 0 spare held fuel 45 cs=some x) (hW:WOk prog 45 x.1):∃ q:Rv × Rv,(RvB q.1∧RvB q.2)∧AP (Ba w (Vq w)) (dIr tg q) cs:=by
 obtain ⟨a,rfl,h1,_⟩:=ArC h
 obtain ⟨xs,n,_,hx,_,hxl,hg⟩:=il underlying45 h
 rw [hx] at hW
 obtain ⟨y,hy⟩:∃ y,xs[0]?=some y:=⟨_,gE (by rw [hxl];decide)⟩
 obtain ⟨z,hz⟩:∃ z,xs[1]?=some z:=⟨_,gE (by rw [hxl];decide)⟩
 have g0:DataW.trod enc prog w 0 spare held n 43 ((a.cells.drop 0).take (prog.cellsOf 43))=some y:=(hg 0 _ rfl).trans hy
 have g1:DataW.trod enc prog w 0 spare held n 43 ((a.cells.drop 3).take (prog.cellsOf 43))=some z:=(hg 1 _ rfl).trans hz
 have k0:DataW.trod enc prog w 0 spare held n 43 a.lo.cells=some y:=by
  rw [show prog.cellsOf 43=3 by kernel_rfl] at g0
  exact g0
 have k1:DataW.trod enc prog w 0 spare held n 43 a.hi.cells=some z:=by
  rw [show prog.cellsOf 43=3 by kernel_rfl] at g1
  exact g1
 have w0:WOk prog 43 y.1:=En underlying45 hW (i:=0) rfl (by rw [ag,hy];rfl)
 have w1:WOk prog 43 z.1:=En underlying45 hW (i:=1) rfl (by rw [ag,hz];rfl)
 exact ⟨(⟨a.lo.nb,a.lo.ws,a.lo.den⟩,⟨a.hi.nb,a.hi.ws,a.hi.den⟩),⟨⟨h1.lo.ok,Zm k0 w0 _ rfl⟩,h1.hi.ok,Zm k1 w1 _ rfl⟩,(Aha tg h1.lo).app (Aha tg h1.hi)⟩
theorem AjY {cs:List Value} {x:DataW H × List MemPlace} (h:DataW.trod enc prog w 0 spare held fuel 65 cs=some x) (hW:WOk prog 65 x.1) :
  ∃ b:Bk,cs=b.cells∧(b.A=none→b.cap=0)∧b.args.length≤b.cap∧Aj w w.heap.size b.A (CR b.args)∧b.args.length≤17592186044416:=by
 obtain ⟨b,rfl,h1,h2,_,h3,_⟩:=AmW h
 obtain ⟨xs,n,_,hx,_,hxl,hg⟩:=il underlying65 h
 rw [hx] at hW
 obtain ⟨y,hy⟩:∃ y,xs[1]?=some y:=⟨_,gE (by rw [hxl];decide)⟩
 have g1:=hg 1 _ rfl
 rw [hy] at g1
 have g2:DataW.trod enc prog w 0 spare held n 24 [.slice b.A b.args.length b.cap]=some y:=g1
 have w1:WOk prog 24 y.1:=En underlying65 hW (i:=1) rfl (by rw [ag,hy];rfl)
 have:=Ef underlying24 g2 w1
 rw [show prog.bytesOf 3=8 by kernel_rfl] at this
 exact ⟨b,rfl,h1,h2,h3,RH _ this (by decide)⟩
theorem Ahd {c:Nat} {A:Option Addr} {x:DataW H × List MemPlace} (h:DataW.trod enc prog w 0 spare held fuel 24 [.slice A n c]=some x) (hW:WOk prog 24 x.1):n≤17592186044416:=by
 have:=Ef underlying24 h hW
 rw [show prog.bytesOf 3=8 by kernel_rfl] at this
 exact RH _ this (by decide)
theorem AjZ {r:Go.Reach} {d:DataW H} {p:List MemPlace} (hv:Value.okWide prog w r b0 26 v) (h:DataW.Trod enc prog w 0 spare held 26 v d p) (hW:WOk prog 26 d) :
  ∃ (ps:List Prt) (bs:List Bk) (os:List Int),EA w (Apy w) (aDg true ps bs os) v∧Uh ps bs os:=by
 obtain ⟨v0,v1,v2,y0,y1,y2,m,rfl,rfl,rfl,g0,g1,g2⟩:=open_agg3 underlying26 (by kernel_rfl) (by kernel_rfl) hv h
 have w0:WOk prog 22 y0.1:=En underlying26 hW (i:=0) rfl rfl
 have w1:WOk prog 23 y1.1:=En underlying26 hW (i:=1) rfl rfl
 have w2:WOk prog 24 y2.1:=En underlying26 hW (i:=2) rfl rfl
 obtain ⟨A1,c1,ps,rfl,n1,k1,l1,h1,b1⟩:=Wm AqY Yi (fun _=>rfl) (by decide) underlying22 underlying61 (by kernel_rfl) (SI (by kernel_rfl)) (by kernel_rfl) rfl g0
 obtain ⟨A2,c2,l,rfl,n2,k2,l2,h2,b2⟩:=AtS (s:=6) (Q:=fun (b:Bk) cs=>cs=b.cells∧(b.A=none→b.cap=0)∧b.args.length≤b.cap∧Aj w w.heap.size b.A (CR b.args)∧b.args.length≤17592186044416) (by decide) underlying23 (by kernel_rfl) (fun fuel cs x hx _ hWx=>AjY hx hWx) g1 w1
 obtain ⟨A3,c3,os,rfl,n3,k3,l3,h3,b3⟩:=EP underlying24 underlying3 (by kernel_rfl) g2
 have q1:ps.length≤17592186044416:=by
  have:=Ef underlying22 g0 w0
  rw [show prog.bytesOf 61=24 by kernel_rfl] at this
  exact RH _ this (by decide)
 have q2:l.length≤17592186044416:=by
  have:=Ef underlying23 g1 w1
  rw [show prog.bytesOf 65=64 by kernel_rfl] at this
  exact RH _ this (by decide)
 have q3:=Ahd g2 w2
 have e:Eg XI.cs l=Eg Bk.cells (l.map XI.a):=by
  unfold Eg
  rw [bw]
  congr 1
  exact cw fun y hy=>(b2 y hy).1
 rw [e] at h2
 have b3':∀ b∈l.map XI.a,(b.A=none→b.cap=0)∧b.args.length≤b.cap∧Aj w w.heap.size b.A (CR b.args)∧b.args.length≤17592186044416:=fun b hb=>by
  obtain ⟨y,hy,rfl⟩:=List.mem_map.1 hb
  exact (b2 y hy).2
 refine ⟨ps,l.map XI.a,os,⟨[.slice A1 ps.length c1,.slice A2 l.length c2,.slice A3 os.length c3],rfl,?_⟩,q1,by rw [ad];exact q2,q3,fun b hb=>(b3' b hb).2.2.2⟩
 refine .cons_ (Apz h1 k1 n1) (.cons_ ?_ (.cons_ (AgO h3 k3 n3) .nil_))
 have hll:(l.map XI.a).length=l.length:=ad ..
 rw [←hll]
 exact AgN h2 (by rw [ad];exact k2) n2 (AgQ true _) (AlF fun b hb=>⟨(b3' b hb).2.2.1,(b3' b hb).2.1,(b3' b hb).1⟩)
theorem AcL {r:Go.Reach} {d:DataW H} {p:List MemPlace} (hv:Value.okWide prog w r b0 30 v) (h:DataW.Trod enc prog w 0 spare held 30 v d p) (hW:WOk prog 30 d) :
  ∃ (F:List Int) (qs:List (Rv × Rv)) (rs:List Rv),EA w (Vq w) (.agg (dCr false F qs rs)) v∧(∀ q∈qs,RvB q.1∧RvB q.2)∧(∀ r∈rs,RvB r)∧F.length≤17592186044416∧qs.length≤17592186044416∧rs.length≤17592186044416:=by
 obtain ⟨v0,v1,v2,y0,y1,y2,m,rfl,rfl,rfl,g0,g1,g2⟩:=open_agg3 underlying30 (by kernel_rfl) (by kernel_rfl) hv h
 have w0:WOk prog 24 y0.1:=En underlying30 hW (i:=0) rfl rfl
 have w1:WOk prog 27 y1.1:=En underlying30 hW (i:=1) rfl rfl
 have w2:WOk prog 28 y2.1:=En underlying30 hW (i:=2) rfl rfl
 obtain ⟨A,cp,zs,rfl,n,k,l,hc,b⟩:=EP underlying24 underlying3 (by kernel_rfl) g0
 obtain ⟨qs,h1,k1,l1⟩:=Ahc (s:=6) (tg:=false) (dIr false) (fun q:Rv × Rv=>RvB q.1∧RvB q.2) (by decide) (fun _=>rfl) underlying27 (by kernel_rfl) (fun fuel cs x hx _ hWx=>ApO false hx hWx) g1 w1
 obtain ⟨rs,h2,k2,l2⟩:=Ahc (s:=3) (tg:=false) (dRv false) RvB (by decide) (fun _=>rfl) underlying28 (by kernel_rfl) (fun fuel cs x hx _ hWx=>ApN false hx hWx) g2 w2
 have h0:Ba w (Vq w) (AM false zs) (.slice A zs.length cp):=by
  unfold AM
  rw [Ww]
  exact Vl hc k n (by simp [CR]) (GV Vh)
 have q1:qs.length≤17592186044416:=by
  obtain ⟨A',c',rfl⟩:=XG h1
  have:=Ef underlying27 g1 w1
  rw [show prog.bytesOf 45=80 by kernel_rfl] at this
  exact RH _ this (by decide)
 have q2:rs.length≤17592186044416:=by
  obtain ⟨A',c',rfl⟩:=XG h2
  have:=Ef underlying28 g2 w2
  rw [show prog.bytesOf 43=40 by kernel_rfl] at this
  exact RH _ this (by decide)
 exact ⟨zs,qs,rs,⟨_,rfl,.cons_ h0 (.cons_ h1 (.cons_ h2 .nil_))⟩,k1,k2,Ahd g0 w0,q1,q2⟩
theorem Zn (tg:Bool) {r:Go.Reach} {b0:Nat} {v:Value} {d:DataW H} {p:List MemPlace} (hv:Value.okWide prog w r b0 31 v) (h:DataW.Trod enc prog w 0 spare held 31 v d p) (hW:WOk prog 31 d) :
  ∃ ls:List (List Int),EA w (Vq w) (.one (.row tg 1 ls.length (ls.map (AM tg)))) v∧(ls.length:Int)≤9223372036854775807∧∀ l∈ls,l.length≤17592186044416:=by
 obtain ⟨a0,len,cap,rfl⟩:=okWide_slice underlying31 hv
 obtain ⟨fuel,hf⟩:=h
 obtain ⟨ls,h1,h2,h3⟩:=Ahc (s:=1) (tg:=tg) (fun l=>[AM tg l]) (fun l:List Int=>l.length≤17592186044416) (by decide) (fun _=>rfl) underlying31 (by kernel_rfl) (fun fuel cs x hx hl hWx=>by
  match cs,hl with
  | [c],_ =>
   obtain ⟨A,cp,zs,rfl,n,k,l,hc,b⟩:=EP underlying24 underlying3 (by kernel_rfl) hx
   refine ⟨zs,Ahd hx hWx,.cons_ ?_ .nil_⟩
   unfold AM
   rw [Ww]
   exact Vl hc k n (by simp [CR]) (GV Vh)) hf hW
 rw [AgY] at h1
 exact ⟨ls,h1,ApL h3,h2⟩
end
end Go.Proofs.YtjlkgfeepocjfaaGreatDoor
