/- What the proofs of this claim share, part 3. No conditions. -/
import Derived.Test.YtjlkgfeepocjfaaGreatDoorMk2
import Derived.Lib.Hide
set_option linter.all false
namespace Go.Proofs.YtjlkgfeepocjfaaGreatDoor
open Go.RowKit
variable {l:List Int} {k:Nat}
structure Prt where
 lo:Int
 hi:Int
 fr:Int
def Prt.cells (p:Prt):List Value:=[.int .i64 p.lo,.int .i64 p.hi,.int .i64 p.fr]
def Tg {α:Type} (f:α→List Value) (l:List α):List Value:=(l.map f).flatten
theorem Rr {α:Type} {f:α→List Value} {s:Nat} (hf:∀ x,(f x).length=s):∀ {l:List α} {k j:Nat} {x:α},l[k]?=some x→j<s→(Tg f l)[k*s+j]?=(f x)[j]?
 | [],k,j,x,h,_=>by simp at h
 | y::l,0,j,x,h,hj=>by
  have e:y=x:=by simpa using h
  subst e
  simp only [Tg,bp,gg]
  rw [ek (by rw [hf];omega)]
  simp
 | y::l,k+1,j,x,h,hj=>by
  have ih:=Rr hf (l:=l) (k:=k) (j:=j) (x:=x) (by simpa using h) hj
  simp only [Tg,bp,gg] at ih ⊢
  rw [dw (by rw [hf,bk];omega),hf,show (k+1)*s+j - s=k*s+j by rw [bk];omega]
  exact ih
def Ar:List Int→Int
 | []=>0
 | x::l=>if x=0 then Ar l else x
theorem Bp (a b:List Int):Ar (a++b)=if Ar a=0 then Ar b else Ar a:=by
 induction a with
 | nil=>simp [Ar]
 | cons x l ih =>
  by_cases h:x=0
  ·simp [Ar,h,ih]
  ·simp [Ar,h]
theorem Aaz (h:l[k]?=some 0) (ht:Ar (l.take k)=0):Ar (l.take (k+1))=0:=by
 rw [bh,h,Bp,ht]
 simp [Ar]
theorem AaA {e:Int} (h:l[k]?=some e) (he:e≠0) (ht:Ar (l.take k)=0):Ar l=e:=by
 rw [←ii k l,Bp,if_pos ht]
 have hk:=(gS.1 h)
 obtain ⟨hk,he'⟩:=hk
 rw [dz hk,he']
 simp [Ar,he]
theorem Ahj {pre post:List Int} {e:Int} (hp:Ar pre=0) (h:l[k]?=some e) (he:e≠0) (ht:Ar (l.take k)=0):Ar (pre++(l++post))=e:=by
 rw [Bp,if_pos hp,Bp,AaA h he ht,if_neg he]
abbrev ll:=@Lib.hid
end Go.Proofs.YtjlkgfeepocjfaaGreatDoor
