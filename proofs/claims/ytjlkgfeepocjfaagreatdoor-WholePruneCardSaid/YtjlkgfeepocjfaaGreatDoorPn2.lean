/- What the proofs of this claim share, part 2. No conditions. -/
import Derived.Test.YtjlkgfeepocjfaaGreatDoorPn1
import Derived.ProofKit
import Derived.SizedLaws
import Derived.Carry
import Derived.Lib.SmallJoins
import Derived.Deep.Slices
import Derived.Deep.Fields
import Derived.ChangeSame
set_option linter.all false
namespace Go.Proofs.YtjlkgfeepocjfaaGreatDoor
open Go.ChangeShapes Go.WideShapes Go.ChangeAt Go.RowKit Go.Joins Go.Deep
variable {w:World} {m:Nat} {A:Option Addr}
theorem Mf {H:Type} {enc:TypeId × Value→H} {P:Program} (hl:laidOutB P=true) {W W':World} (hb:Below W.heap.size W W') :
  ∀ {ts:List TypeId} {vs:List Value} {ds:List (DataW H)} {ps:List MemPlace},(∀ t∈ts,P.readableRec t=true∧t<P.types.size)→DataW.TrodAll enc P W 0 (fun _=>true) true ts vs ds ps→(∀ x∈ps,x.block<W.heap.size) →
   DataW.TrodAll enc P W' 0 (fun b=>decide (b<W.heap.size)) true ts vs ds ps
 | [],vs,ds,ps,_,h,_=>by
  obtain ⟨rfl,rfl,rfl⟩:=trodAll_nil h
  exact trodAll_mk0
 | t::ts,vs,ds,ps,hr,h,hlt=>by
  obtain ⟨v,vs',d,ds',p,q,rfl,rfl,rfl,h0,h1⟩:=trodAll_cons h
  exact ⟨p,q,Below.trod hl (hr t (by simp)).1 (hr t (by simp)).2 h0 hb (fun x hx=>hlt x (by simp [hx])),Mf hl hb (fun u hu=>hr u (by simp [hu])) h1 (fun x hx=>hlt x (by simp [hx])),rfl⟩
theorem Li {H:Type} {enc:TypeId × Value→H} {P:Program} {W:World} {base:Nat} {spare:Nat→Bool} {held:Bool} :
  ∀ {ts:List TypeId} {vs:List Value} {ds:List (DataW H)} {ps:List MemPlace},DataW.TrodAll enc P W base spare held ts vs ds ps→ds.length=ts.length
 | [],vs,ds,ps,h=>by
  obtain ⟨_,rfl,_⟩:=trodAll_nil h
  rfl
 | t::ts,vs,ds,ps,h=>by
  obtain ⟨v,vs',d,ds',p,q,rfl,rfl,rfl,_,h1⟩:=trodAll_cons h
  simp [Li h1]
theorem Ahl {H:Type} {enc:TypeId × Value→H} {P:Program} {f:Func} {s:ChangeSpec} {W W':World} {args:Array Value} {ds gs:List (DataW H)} {before:List MemPlace} {T:TypeId}
  (hl:laidOutB P=true) (hr:∀ t∈f.params.toList,P.readableRec t=true∧t<P.types.size) (hvars:s.vars=[]) (hT:P.underlying T=some .bool) (hres:f.resultTypes=#[T])
  (hs:∀ ds:List (DataW H),ds.length=f.params.size→(s.fn H ds).results=[.lit (.bool true)]∧(s.fn H ds).args=ds∧(s.fn H ds).vars=[])
  (hW:DataW.Whole enc P f.params.toList s.vars false W args.toList ds gs before) (hb:Below W.heap.size W W') :
  s.post enc P f false true false false W args (.bool true) W':=by
 obtain ⟨p,q,hA,hV,rfl,hfz,hnd⟩:=hW
 have hW0:DataW.Whole enc P f.params.toList s.vars false W args.toList ds gs (p++q):=⟨p,q,hA,hV,rfl,hfz,hnd⟩
 have hlt:∀ x∈p++q,x.block<W.heap.size:=fun x hx=>hW0.lt x hx
 rw [hvars] at hV
 obtain ⟨rfl,rfl⟩:=trodVars_none hV
 obtain ⟨h1,h2,h3⟩:=hs ds (by rw [Li hA];simp)
 refine ⟨ds,[],p++[],[],p,[],hW0,?_,?_,?_,hb.frame _,fun h=>by cases h⟩
 ·rw [av,h1,hres]
  exact trodAll_mk1 (shut_bool hT true)
 ·rw [av,h2]
  exact Mf hl hb hr hA (fun x hx=>hlt x (by simp [hx]))
 ·rw [hvars,av,h3]
  rfl
def Aj (w:World) (m:Nat) (A:Option Addr) (xs:List Value):Prop :=
 xs≠[]→∃ b off,A=some ⟨b,off,none⟩∧b<m∧b<w.heap.size∧∀ j u,xs[j]?=some u→w.cell? ⟨b,off+j,none⟩=some u
theorem Aj.nil_:Aj w m A []:=fun h=>absurd rfl h
theorem Aj.below {w':World} {B:Nat} {xs:List Value} (h:Aj w m A xs) (hb:Below B w w') (hm:m≤B):Aj w' m A xs:=fun hx=>by
 obtain ⟨b,off,hA,hbm,hbs,hc⟩:=h hx
 exact ⟨b,off,hA,hbm,au hbs hb.size,fun j u hu=>(hb.cell (p:=⟨b,off+j,none⟩) (au hbm hm)).trans (hc j u hu)⟩
theorem Aj.more {m':Nat} {xs:List Value} (h:Aj w m A xs) (hm:m≤m'):Aj w m' A xs:=fun hx=>by
 obtain ⟨b,off,hA,hbm,hbs,hc⟩:=h hx
 exact ⟨b,off,hA,au hbm hm,hbs,hc⟩
def CR (zs:List Int):List Value:=zs.map (Value.int .i64)
theorem Pa (zs:List Int):(CR zs).length=zs.length:=by simp [CR]
theorem Aj.int_ {zs:List Int} (h:Aj w m A (CR zs)) {k:Nat} (hk:k<zs.length) :
  ∃ b off z,A=some ⟨b,off,none⟩∧b<m∧b<w.heap.size∧zs[k]?=some z∧w.cell? ⟨b,off+k,none⟩=some (.int .i64 z):=by
 obtain ⟨b,off,hA,hbm,hbs,hc⟩:=h (fun h0=>by have:=Pa zs;rw [h0] at this;simp at this;omega)
 exact ⟨b,off,zs[k],hA,hbm,hbs,gE hk,hc k _ (by simp [CR,hk])⟩
section
variable {H:Type} {enc:TypeId × Value→H} {P:Program} {w:World} {spare:Nat→Bool} {held:Bool}
theorem Vs {t e:TypeId} {fuel:Nat} {v:Value} {x:DataW H × List MemPlace} (ht:P.underlying t=some (.slice e)) (he:P.underlying e=some (.int .i64)) (hc:P.cellsOf e=1)
  (h:DataW.trod enc P w 0 spare held fuel t [v]=some x) :
  ∃ (A:Option Addr) (cap:Nat) (zs:List Int),v=.slice A zs.length cap∧zs.length≤cap∧zs.length≤maxLen∧Aj w w.heap.size A (CR zs)∧(∀ z∈zs,-9223372036854775808≤z∧z≤9223372036854775807):=by
 rcases open_ints ht he hc h with ⟨hcs,_⟩|⟨a,len,cap,zs,hcs,_,hl,hm,hz,_,hcell,hwz⟩
 ·exact ⟨none,0,[],by simpa using hcs,aa _,af _,Aj.nil_,by simp⟩
 ·have hle:len≤zs.length:=by rw [hz];split <;> omega
  have hlen:(zs.take len).length=len:=by simp;omega
  refine ⟨some a,cap,zs.take len,by rw [hlen];simpa using hcs,by omega,by omega,fun hx=>?_,fun z h=>bounds_i64 (hwz z (eh h))⟩
  have hp:0<len:=by
   rcases co len with h0|h0
   ·subst h0;simp [CR] at hx
   ·exact h0
  obtain ⟨b,off,rfl,hcell'⟩:=ints_at hcell (by omega)
  have h0:=hcell' 0 (by omega)
  have hb:b<w.heap.size:=by
   rcases bf b w.heap.size with h|h
   ·exact h
   ·simp [World.cell?,fb h] at h0
  refine ⟨b,off,rfl,hb,hb,fun j u hu=>?_⟩
  have hj:j<len:=by
   have:=(gS.1 hu).1
   rw [Pa,hlen] at this
   exact this
  rw [hcell' j (by omega)]
  simp only [CR,ag,bq,if_pos hj] at hu
  obtain ⟨z,hz1,rfl⟩:=Option.map_eq_some_iff.1 hu
  simp [hz1]
end
end Go.Proofs.YtjlkgfeepocjfaaGreatDoor
