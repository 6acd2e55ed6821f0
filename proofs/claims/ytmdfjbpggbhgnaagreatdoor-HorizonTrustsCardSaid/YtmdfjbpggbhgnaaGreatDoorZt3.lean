/- What the proofs of this claim share, part 3. No conditions. -/
import Derived.Test.YtmdfjbpggbhgnaaGreatDoorZt2
import Derived.Lib.Hide
set_option linter.unusedVariables false
set_option linter.unusedSimpArgs false
set_option linter.unusedSectionVars false
namespace Go.Proofs.YtmdfjbpggbhgnaaGreatDoor
open Go.RowKit
def BoxAt (w:World) (b:Nat) (vs:List Value):Prop:=b<w.heap.size∧∀ j u,vs[j]?=some u→w.cell? ⟨b,j,none⟩=some u
structure Prt where
 lo:Int
 hi:Int
 fr:Int
def Prt.cells (p:Prt):List Value:=[.int .i64 p.lo,.int .i64 p.hi,.int .i64 p.fr]
structure Ins where
 op:Int
 dst:Int
 a:Int
 b:Int
 sa:Int
 sb:Int
 imm:Int
def Ins.cells (x:Ins):List Value:=[.int .i64 x.op,.int .i64 x.dst,.int .i64 x.a,.int .i64 x.b,.int .i64 x.sa,.int .i64 x.sb,.int .i64 x.imm]
def Hb {α:Type} (f:α→List Value) (l:List α):List Value:=(l.map f).flatten
theorem Gd {α:Type} {f:α→List Value} {s:Nat} (hf:∀ x,(f x).length=s):∀ {l:List α} {k j:Nat} {x:α},l[k]?=some x→j<s→(Hb f l)[k*s+j]?=(f x)[j]?
 | [],k,j,x,h,_=>by simp at h
 | y::l,0,j,x,h,hj=>by
  have e:y=x:=by simpa using h
  subst e
  simp only [Hb,List.map_cons,List.flatten_cons]
  rw [List.getElem?_append_left (by rw [hf];omega)]
  simp
 | y::l,k+1,j,x,h,hj=>by
  have ih:=Gd hf (l:=l) (k:=k) (j:=j) (x:=x) (by simpa using h) hj
  simp only [Hb,List.map_cons,List.flatten_cons] at ih ⊢
  rw [List.getElem?_append_right (by rw [hf,Nat.add_mul];omega),hf,show (k+1)*s+j - s=k*s+j by rw [Nat.add_mul];omega]
  exact ih
theorem AaE {α:Type} {f:α→List Value} {s:Nat} (hf:∀ x,(f x).length=s) (hs:0<s) {l:List α} {k:Nat} (h:k<l.length):Hb f l≠[]:=by
 intro h0
 have:=Gd hf (l:=l) (k:=k) (j:=0) (List.getElem?_eq_getElem h) hs
 rw [h0] at this
 have hl:=hf l[k]
 have h1:(f l[k])[0]?=none:=by rw [←this];rfl
 rw [List.getElem?_eq_none_iff] at h1
 omega
theorem Am.row {w:World} {m s:Nat} {A:Option Addr} {α:Type} {f:α→List Value} {l:List α} (h:Am w m A (Hb f l)) (hf:∀ x,(f x).length=s) (hs:0<s) {k:Nat} (hk:k<l.length) :
  ∃ b off x,A=some ⟨b,off,none⟩∧b<m∧b<w.heap.size∧l[k]?=some x∧∀ j u,(f x)[j]?=some u→w.cell? ⟨b,off+k*s+j,none⟩=some u:=by
 obtain ⟨b,off,hA,hbm,hbs,hc⟩:=h (AaE hf hs hk)
 refine ⟨b,off,l[k],hA,hbm,hbs,List.getElem?_eq_getElem hk,fun j u hu=>?_⟩
 rw [Nat.add_assoc]
 refine hc _ u ?_
 have hj:j<s:=by rw [←hf l[k]];exact (List.getElem?_eq_some_iff.1 hu).1
 rw [Gd hf (List.getElem?_eq_getElem hk) hj,hu]
def AH:List Int→Int
 | []=>0
 | x::l=>if x=0 then AH l else x
theorem Bx (a b:List Int):AH (a++b)=if AH a=0 then AH b else AH a:=by
 induction a with
 | nil=>simp [AH]
 | cons x l ih =>
  by_cases h:x=0
  ·simp [AH,h,ih]
  ·simp [AH,h]
theorem UW {l:List Int} {k:Nat} (h:l[k]?=some 0) (ht:AH (l.take k)=0):AH (l.take (k+1))=0:=by
 rw [List.take_add_one,h,Bx,ht]
 simp [AH]
theorem UX {l:List Int} {k:Nat} {e:Int} (h:l[k]?=some e) (he:e≠0) (ht:AH (l.take k)=0):AH l=e:=by
 rw [←List.take_append_drop k l,Bx,if_pos ht]
 have hk:=(List.getElem?_eq_some_iff.1 h)
 obtain ⟨hk,he'⟩:=hk
 rw [List.drop_eq_getElem_cons hk,he']
 simp [AH,he]
theorem ZO {pre l post:List Int} {k:Nat} {e:Int} (hp:AH pre=0) (h:l[k]?=some e) (he:e≠0) (ht:AH (l.take k)=0):AH (pre++(l++post))=e:=by
 rw [Bx,if_pos hp,Bx,UX h he ht,if_neg he]
theorem DH {l:List Int} {k:Nat} (hk:l.length≤k) (ht:AH (l.take k)=0):AH l=0:=by rwa [List.take_of_length_le hk] at ht
end Go.Proofs.YtmdfjbpggbhgnaaGreatDoor
