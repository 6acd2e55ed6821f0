/- What the proofs of this claim share, part 3. No conditions. -/
import Derived.Test.YtjlkgfeepocjfaaGreatDoorPn2
import Derived.Lib.Hide
set_option linter.all false
namespace Go.Proofs.YtjlkgfeepocjfaaGreatDoor
open Go.RowKit
variable {w:World} {b k:Nat} {vs:List Value} {v0 v1:Value} {l:List Int}
def Ld (w:World) (b:Nat) (vs:List Value):Prop:=b<w.heap.size∧∀ j u,vs[j]?=some u→w.cell? ⟨b,j,none⟩=some u
theorem Ld.below {w':World} {B:Nat} (h:Ld w b vs) (hb:Below B w w') (hB:b<B):Ld w' b vs :=
 ⟨au h.1 hb.size,fun j u hu=>(hb.cell (p:=⟨b,j,none⟩) hB).trans (h.2 j u hu)⟩
theorem Ld.c0 (h:Ld w b (v0::vs)):w.cell? ⟨b,0,none⟩=some v0:=h.2 0 _ rfl
theorem Ld.c1 (h:Ld w b (v0::v1::vs)):w.cell? ⟨b,1,none⟩=some v1:=h.2 1 _ rfl
theorem Ld.c2 {v2:Value} (h:Ld w b (v0::v1::v2::vs)):w.cell? ⟨b,2,none⟩=some v2:=h.2 2 _ rfl
theorem Ld.c3 {v2 v3:Value} (h:Ld w b (v0::v1::v2::v3::vs)):w.cell? ⟨b,3,none⟩=some v3:=h.2 3 _ rfl
theorem Ld.new_ (w:World) (vs:List Value) (t:TypeId):Ld (w.alloc (.cells vs.toArray t)) w.heap.size vs :=
 ⟨by simp,fun j u hu=>by simp [go_sem,hu]⟩
structure Prt where
 lo:Int
 hi:Int
 fr:Int
def Prt.cells (p:Prt):List Value:=[.int .i64 p.lo,.int .i64 p.hi,.int .i64 p.fr]
structure Ins where
 op:Int
 dst:Int
 a:Int
 b:Int
 sa:Int
 sb:Int
 imm:Int
def Ins.cells (x:Ins):List Value:=[.int .i64 x.op,.int .i64 x.dst,.int .i64 x.a,.int .i64 x.b,.int .i64 x.sa,.int .i64 x.sb,.int .i64 x.imm]
def Eg {α:Type} (f:α→List Value) (l:List α):List Value:=(l.map f).flatten
theorem IB {α:Type} {f:α→List Value} {s:Nat} (hf:∀ x,(f x).length=s):∀ {l:List α} {k j:Nat} {x:α},l[k]?=some x→j<s→(Eg f l)[k*s+j]?=(f x)[j]?
 | [],k,j,x,h,_=>by simp at h
 | y::l,0,j,x,h,hj=>by
  have e:y=x:=by simpa using h
  subst e
  simp only [Eg,br,gg]
  rw [dk (by rw [hf];omega)]
  simp
 | y::l,k+1,j,x,h,hj=>by
  have ih:=IB hf (l:=l) (k:=k) (j:=j) (x:=x) (by simpa using h) hj
  simp only [Eg,br,gg] at ih ⊢
  rw [dt (by rw [hf,bo];omega),hf,show (k+1)*s+j - s=k*s+j by rw [bo];omega]
  exact ih
theorem AlT {α:Type} {f:α→List Value} {s:Nat} (hf:∀ x,(f x).length=s) (hs:0<s) {l:List α} {k:Nat} (h:k<l.length):Eg f l≠[]:=by
 intro h0
 have:=IB hf (l:=l) (k:=k) (j:=0) (gE h) hs
 rw [h0] at this
 have hl:=hf l[k]
 have h1:(f l[k])[0]?=none:=by rw [←this];rfl
 rw [List.getElem?_eq_none_iff] at h1
 omega
theorem Aj.row {m s:Nat} {A:Option Addr} {α:Type} {f:α→List Value} {l:List α} (h:Aj w m A (Eg f l)) (hf:∀ x,(f x).length=s) (hs:0<s) {k:Nat} (hk:k<l.length) :
  ∃ b off x,A=some ⟨b,off,none⟩∧b<m∧b<w.heap.size∧l[k]?=some x∧∀ j u,(f x)[j]?=some u→w.cell? ⟨b,off+k*s+j,none⟩=some u:=by
 obtain ⟨b,off,hA,hbm,hbs,hc⟩:=h (AlT hf hs hk)
 refine ⟨b,off,l[k],hA,hbm,hbs,gE hk,fun j u hu=>?_⟩
 rw [gr]
 refine hc _ u ?_
 have hj:j<s:=by rw [←hf l[k]];exact (gS.1 hu).1
 rw [IB hf (gE hk) hj,hu]
def Ai:List Int→Int
 | []=>0
 | x::l=>if x=0 then Ai l else x
theorem Aw (a b:List Int):Ai (a++b)=if Ai a=0 then Ai b else Ai a:=by
 induction a with
 | nil=>simp [Ai]
 | cons x l ih =>
  by_cases h:x=0
  ·simp [Ai,h,ih]
  ·simp [Ai,h]
theorem Ng (h:l[k]?=some 0) (ht:Ai (l.take k)=0):Ai (l.take (k+1))=0:=by
 rw [ak,h,Aw,ht]
 simp [Ai]
theorem Zq {e:Int} (h:l[k]?=some e) (he:e≠0) (ht:Ai (l.take k)=0):Ai l=e:=by
 rw [←gh k l,Aw,if_pos ht]
 have hk:=(gS.1 h)
 obtain ⟨hk,he'⟩:=hk
 rw [dm hk,he']
 simp [Ai,he]
theorem Vt {pre post:List Int} {e:Int} (hp:Ai pre=0) (h:l[k]?=some e) (he:e≠0) (ht:Ai (l.take k)=0):Ai (pre++(l++post))=e:=by
 rw [Aw,if_pos hp,Aw,Zq h he ht,if_neg he]
theorem Gi (hk:l.length≤k) (ht:Ai (l.take k)=0):Ai l=0:=by rwa [am hk] at ht
abbrev mi:=@Lib.hid
end Go.Proofs.YtjlkgfeepocjfaaGreatDoor
