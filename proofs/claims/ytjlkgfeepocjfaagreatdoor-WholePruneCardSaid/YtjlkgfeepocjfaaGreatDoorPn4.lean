/- What the proofs of this claim share, part 4. No conditions. -/
import Derived.Test.YtjlkgfeepocjfaaGreatDoorPn1
import Derived.StillTail
import Derived.BigQuiet
set_option linter.all false
namespace Go.Proofs.YtjlkgfeepocjfaaGreatDoor
open Go.RowKit
variable {P:Program} {w:World}
structure Abh (w:World) (m:Nat) where
 val:World
 is:Below m w val
 fits:m≤val.heap.size
@[go_sem] theorem AlU {w:World} {a:Addr} {v:Value} (h:(w.cell? a).isSome=true):(w.setCell a v).cell? a=some v:=by
 obtain ⟨u,hu⟩:=Option.isSome_iff_exists.1 h
 exact World.cell?_setCell_same w a v hu
instance extW_some (w:World):Nonempty (Abh w w.heap.size):=⟨⟨w,ah _ _,aa _⟩⟩
@[go_sem] theorem Abh.cell {w:World} {m:Nat} (x:Abh w m) {b o:Nat} (h:b<m):x.val.cell? ⟨b,o,none⟩=w.cell? ⟨b,o,none⟩:=x.is.cell (p:=⟨b,o,none⟩) h
@[go_sem] theorem Abh.frozen {w:World} {m:Nat} (x:Abh w m) {b o:Nat} (h:b<m):x.val.frozen? ⟨b,o,none⟩=w.frozen? ⟨b,o,none⟩:=x.is.frozen (p:=⟨b,o,none⟩) h
theorem Vu {f:FuncId} {args:Array Value} {m:Nat} {x:Abh w m} {v:Value}
  (h:Calls P f args x.val fun e w'=>e=.returned v∧Below x.val.heap.size x.val w'):Calls P f args x.val fun e w''=>e=.returned v∧∃ y:Abh w m,w''=y.val :=
 h.mono fun _ w' ⟨he,hb⟩=>⟨he,⟨w',x.is.trans (hb.mono x.fits),lT x.fits hb.size⟩,rfl⟩
theorem Abi {f:FuncId} {args:Array Value} {n:Nat} {v:Value}
  (h:Calls P f args (w.drewN n) fun e w'=>e=.returned v∧w.drewN n=w'):Calls P f args (w.drewN n) fun e w''=>e=.returned v∧∃ m,w''=w.drewN m :=
 h.mono fun _ _ ⟨he,hm⟩=>⟨he,n,hm.symm⟩
theorem RK {id:Nat} {Q:Exit→Act→World→Prop} {a:Act} {l:List Oper} (m:Nat) (hle:m≤w.heap.size) (hm:P.follows .mixedOrders=true) (hB:Region.lexB .any l.toArray=true)
  (h:Nonempty (Abh w m)→wpQuiet P l.toArray (fun w'=>∃ x:Abh w m,w'=x.val) (fun a'=>∀ w',(∃ x:Abh w m,w'=x.val)→Q .normal a' w') l a):(Code.region id l.toArray true).wp P Q a w :=
 wp_region_quiet (C:=fun w'=>∃ x:Abh w m,w'=x.val) hm hB ⟨⟨w.drew,(ah _ _).drew,hle⟩,rfl⟩ (by simpa using h ⟨⟨w,ah _ _,hle⟩⟩)
end Go.Proofs.YtjlkgfeepocjfaaGreatDoor
