/- What the proofs of this claim share, part 3. No conditions. -/
import Derived.Test.YtmdfjbpggbhgnaaGreatDoorMr2
import Derived.Lib.Hide
set_option linter.all false
namespace Go.Proofs.YtmdfjbpggbhgnaaGreatDoor
open Go.RowKit
variable {l:List Int} {k:Nat}
structure Prt where
 lo:Int
 hi:Int
 fr:Int
def Prt.cells (p:Prt):List Value:=[.int .i64 p.lo,.int .i64 p.hi,.int .i64 p.fr]
def Rq {α:Type} (f:α→List Value) (l:List α):List Value:=(l.map f).flatten
theorem Qd {α:Type} {f:α→List Value} {s:Nat} (hf:∀ x,(f x).length=s):∀ {l:List α} {k j:Nat} {x:α},l[k]?=some x→j<s→(Rq f l)[k*s+j]?=(f x)[j]?
 | [],k,j,x,h,_=>by simp at h
 | y::l,0,j,x,h,hj=>by
  have e:y=x:=by simpa using h
  subst e
  simp only [Rq,bp,fz]
  rw [ee (by rw [hf];omega)]
  simp
 | y::l,k+1,j,x,h,hj=>by
  have ih:=Qd hf (l:=l) (k:=k) (j:=j) (x:=x) (by simpa using h) hj
  simp only [Rq,bp,fz] at ih ⊢
  rw [du (by rw [hf,bj];omega),hf,show (k+1)*s+j - s=k*s+j by rw [bj];omega]
  exact ih
def Ap:List Int→Int
 | []=>0
 | x::l=>if x=0 then Ap l else x
theorem Bj (a b:List Int):Ap (a++b)=if Ap a=0 then Ap b else Ap a:=by
 induction a with
 | nil=>simp [Ap]
 | cons x l ih =>
  by_cases h:x=0
  ·simp [Ap,h,ih]
  ·simp [Ap,h]
theorem Yj (h:l[k]?=some 0) (ht:Ap (l.take k)=0):Ap (l.take (k+1))=0:=by
 rw [ay,h,Bj,ht]
 simp [Ap]
theorem Yk {e:Int} (h:l[k]?=some e) (he:e≠0) (ht:Ap (l.take k)=0):Ap l=e:=by
 rw [←ic k l,Bj,if_pos ht]
 have hk:=(gS.1 h)
 obtain ⟨hk,he'⟩:=hk
 rw [dv hk,he']
 simp [Ap,he]
theorem AeL {pre post:List Int} {e:Int} (hp:Ap pre=0) (h:l[k]?=some e) (he:e≠0) (ht:Ap (l.take k)=0):Ap (pre++(l++post))=e:=by
 rw [Bj,if_pos hp,Bj,Yk h he ht,if_neg he]
abbrev li:=@Lib.hid
end Go.Proofs.YtmdfjbpggbhgnaaGreatDoor
