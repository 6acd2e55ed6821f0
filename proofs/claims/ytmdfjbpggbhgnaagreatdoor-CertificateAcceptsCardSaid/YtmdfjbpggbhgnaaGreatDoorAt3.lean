/- What the proofs of this claim share, part 3. No conditions. -/
import Derived.Test.YtmdfjbpggbhgnaaGreatDoorAt2
import Derived.Lib.Hide
set_option linter.all false
namespace Go.Proofs.YtmdfjbpggbhgnaaGreatDoor
open Go.RowKit
variable {l:List Int} {k:Nat}
structure Prt where
 lo:Int
 hi:Int
 fr:Int
def Prt.cells (p:Prt):List Value:=[.int .i64 p.lo,.int .i64 p.hi,.int .i64 p.fr]
def PA {α:Type} (f:α→List Value) (l:List α):List Value:=(l.map f).flatten
theorem Oq {α:Type} {f:α→List Value} {s:Nat} (hf:∀ x,(f x).length=s):∀ {l:List α} {k j:Nat} {x:α},l[k]?=some x→j<s→(PA f l)[k*s+j]?=(f x)[j]?
 | [],k,j,x,h,_=>by simp at h
 | y::l,0,j,x,h,hj=>by
  have e:y=x:=by simpa using h
  subst e
  simp only [PA,bk,fu]
  rw [ee (by rw [hf];omega)]
  simp
 | y::l,k+1,j,x,h,hj=>by
  have ih:=Oq hf (l:=l) (k:=k) (j:=j) (x:=x) (by simpa using h) hj
  simp only [PA,bk,fu] at ih ⊢
  rw [ef (by rw [hf,bf];omega),hf,show (k+1)*s+j - s=k*s+j by rw [bf];omega]
  exact ih
def Ap:List Int→Int
 | []=>0
 | x::l=>if x=0 then Ap l else x
theorem AX (a b:List Int):Ap (a++b)=if Ap a=0 then Ap b else Ap a:=by
 induction a with
 | nil=>simp [Ap]
 | cons x l ih =>
  by_cases h:x=0
  ·simp [Ap,h,ih]
  ·simp [Ap,h]
theorem VS (h:l[k]?=some 0) (ht:Ap (l.take k)=0):Ap (l.take (k+1))=0:=by
 rw [bg,h,AX,ht]
 simp [Ap]
theorem VT {e:Int} (h:l[k]?=some e) (he:e≠0) (ht:Ap (l.take k)=0):Ap l=e:=by
 rw [←eg k l,AX,if_pos ht]
 have hk:=(gS.1 h)
 obtain ⟨hk,he'⟩:=hk
 rw [cn hk,he']
 simp [Ap,he]
theorem AbA {pre post:List Int} {e:Int} (hp:Ap pre=0) (h:l[k]?=some e) (he:e≠0) (ht:Ap (l.take k)=0):Ap (pre++(l++post))=e:=by
 rw [AX,if_pos hp,AX,VT h he ht,if_neg he]
abbrev ko:=@Lib.hid
end Go.Proofs.YtmdfjbpggbhgnaaGreatDoor
