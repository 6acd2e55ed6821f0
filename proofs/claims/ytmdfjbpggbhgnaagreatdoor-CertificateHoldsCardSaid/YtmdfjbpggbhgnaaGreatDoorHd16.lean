/- What the proofs of this claim share, part 16. No conditions. -/
import Derived.Test.YtmdfjbpggbhgnaaGreatDoorHd15
import Derived.Test.YtmdfjbpggbhgnaaGreatDoorHd10
import Derived.Test.YtmdfjbpggbhgnaaGreatDoorHd11
import Derived.Test.YtmdfjbpggbhgnaaGreatDoorHd9
import Derived.Test.YtmdfjbpggbhgnaaGreatDoorHd12
set_option maxRecDepth 100000
set_option maxHeartbeats 4000000
set_option linter.all false
open Go.Proofs.Tryz
namespace Go.Proofs.YtmdfjbpggbhgnaaGreatDoor
open Go.RowKit
variable {i id j n t ty:Nat} {l:List (Option Iq)} {H:List Ob} {a r:Iq} {y:Bk} {ps:List Prt} {bs:List Bk} {F os:List Int} {st:List (Iq)} {s:Int} {p p':Prop} {q:Rv × Rv} {w:Bool} {f:Nat→Int} {Y:List Ins} {V:List (Int × Nat)} {E:List Pq} {R:List Iq}
abbrev iZ:Iq:=((0,0),(0,0))
def kW:Option Iq→List C
 | none=>[.d (.val (.bool false)),.d (.val (.slice none 0 0)),.d (.val (.int .i64 0)),.d (.val (.bool false)),.d (.val (.slice none 0 0)),.d (.val (.int .i64 0))]
 | some a=>(dIw false a).map C.d
def kWs (l:List (Option Iq)):List C:=(l.map kW).flatten
def gW (l:List (Option Iq)):List Iq:=l.map (·.getD iZ)
theorem Ra (o:Option Iq):(kW o).length=6:=by cases o <;> rfl
theorem Gc (o:Option Iq) (l:List (Option Iq)):kWs (o::l)=kW o++kWs l:=by simp [kWs]
theorem AnW (l:List (Option Iq)):(kWs l).length=l.length*6:=by
 induction l with
 | nil=>rfl
 | cons o l ih=>rw [Gc,ak,ih,Ra,bi];omega
theorem Akt:∀ {l:List (Option Iq)} {i:Nat} {o:Option Iq},l[i]?=some o→((kWs l).drop (i*6)).take 6=kW o
 | [],i,o,h=>by simp at h
 | q::l,0,o,h=>by
  simp only [gk,Option.some.injEq] at h
  subst h
  rw [Gc,fx,ji,kp (by rw [Ra];omega),ar (by rw [Ra];omega)]
 | q::l,i+1,o,h=>by
  simp only [fh] at h
  rw [Gc,show (i+1)*6=(kW q).length+i*6 by rw [Ra];omega,←jq,jr]
  exact Akt h
theorem Aff:∀ {l:List (Option Iq)} {i:Nat} (a:Iq),i<l.length→(kWs l).take (i*6)++(dIw false a).map C.d++(kWs l).drop (i*6+6)=kWs (l.set i (some a))
 | [],i,a,h=>by simp at h
 | q::l,0,a,h=>by
  rw [Gc,fx,gq,ef,bf,dg,Gc,show (6:Nat)=(kW q).length from (Ra q).symm,jr]
  rfl
 | q::l,i+1,a,h=>by
  have ih:=Aff (l:=l) (i:=i) a (by simpa using h)
  rw [Gc,dm,Gc,←ih,show (i+1)*6+6=(kW q).length+(i*6+6) by rw [Ra];omega,←jq,jr,show (i+1)*6=(kW q).length+i*6 by rw [Ra];omega,List.take_length_add_append]
  simp
theorem AnX (n:Nat):Ey (madeCells (Value.agg #[.bool false,.slice none 0 0,.int .i64 0,.bool false,.slice none 0 0,.int .i64 0]).cells (n*6)).toList=kWs (List.replicate n none):=by
 have h1:∀ a:Nat,(madeCells (Value.agg #[.bool false,.slice none 0 0,.int .i64 0,.bool false,.slice none 0 0,.int .i64 0]).cells a).toList=(List.range a).map (fun j=>#[Value.bool false,.slice none 0 0,.int .i64 0,.bool false,.slice none 0 0,.int .i64 0][j % 6]!):=fun a=>by
  unfold madeCells
  rw [mi,Array.toList_range]
  rfl
 rw [h1]
 induction n with
 | zero=>rfl
 | succ n ih =>
  rw [show (n+1)*6=n*6+1+1+1+1+1+1 by omega,ct,ct,ct,ct,ct,ct,List.replicate_succ']
  simp only [et,Ey] at ih ⊢
  rw [ih]
  simp only [kWs,et,List.flatten_append,bp,fv,show n*6 % 6=0 by omega,show (n*6+1) % 6=1 by omega,show (n*6+1+1) % 6=2 by omega,show (n*6+1+1+1) % 6=3 by omega,show (n*6+1+1+1+1) % 6=4 by omega,show (n*6+1+1+1+1+1) % 6=5 by omega,ja]
  rfl
theorem AnY:∀ c∈kWs l,C.bel n c:=fun c hc=>by
 obtain ⟨cs,hcs,hc⟩:=List.mem_flatten.1 hc
 obtain ⟨o,_,rfl⟩:=List.mem_map.1 hcs
 cases o with
 | none=>simp [kW] at hc;rcases hc with rfl|rfl|rfl|rfl|rfl|rfl <;> trivial
 | some p=>exact AnB c hc
theorem Asw {t:Bool} (o:Option Iq):Ba (FD t H) (kW o) (dIw false (o.getD iZ)):=by
 cases o with
 | none =>
  show Ba (FD t H) _ (dIw false iZ)
  rw [AeO]
  exact .cons_ (.d fun _=>.val _) (.cons_ .nil (.cons_ (.d fun _=>.val _) (.cons_ (.d fun _=>.val _) (.cons_ .nil (.cons_ (.d fun _=>.val _) .nil_)))))
 | some p=>exact Ba.map_l.2 ⟨rfl,fun j a b ha hb=>by
   have:(dIw false p)[j]?=some b:=hb
   rw [ha] at this
   cases this
   exact .d fun _=>Ik _ a (gM ha)⟩
theorem AnZ {t:Bool} (l:List (Option Iq)):Ba (FD t H) (kWs l) (Ay (dIw false) (gW l)):=by
 induction l with
 | nil=>exact Ba.nil_
 | cons o l ih =>
  rw [Gc]
  exact (Asw o).app ih
theorem Afg (l:List (Option Iq)):(gW l).length=l.length:=af ..
theorem Asx {p:Iq} (h:l[i]?=some (some p)):(gW l)[i]?=some p:=by
 unfold gW
 rw [ag,h]
 rfl
theorem Afh {t:Bool} {c:C} {y:D} (hc:c=.own id n) (hH:H[id]?=some (.row ty 6 n (kWs l))) (hy:y=.row t 6 n (Ay (dIw false) (gW l))):FD t H c y:=Dx hc hH hy (AnZ l)
section
variable {P:Program} {G:World→Prop} {o:Oper} {F:Frm} {H:List Ob}
theorem Wt {t e:TypeId} {x y:Operand} {by_:Nat} {k k':IntKind} (ho:o.op=.makeSlice t x y) (hx:F.ev x=.one (.d (.val (.int k (n:Int))))) (hy:F.ev y=.one (.d (.val (.int k' (n:Int))))) (ht:TyS P t e 6) (hz:TyZ P e (.agg #[.bool false,.slice none 0 0,.int .i64 0,.bool false,.slice none 0 0,.int .i64 0]) 6 by_) (hn:n≤1000000) (hby:by_≤1000) :
  Bd P G o F H (.one (.own H.length n)) [.row e 6 n (kWs (List.replicate n none))]:=by
 have:=Br (P:=P) (G:=G) (H:=H) ho hx hy ht hz hn hby
 rwa [AnX] at this
theorem Aoa {t ty:TypeId} {x:Operand} {p:Iq} (ho:o.op=.load t x) (hx:F.ev x=.one (.ref id (i*6) (some n))) (hH:H[id]?=some (.row ty 6 n (kWs l))) (hp:l[i]?=some (some p)) (hk:TyK P t true 6):Bd P G o F H (.agg ((dIw false p).map C.d)) [] :=
 PC ho hx (.row hH) hk (Akt hp) rfl
theorem Aob {t ty:TypeId} {x y:Operand} {l':List (Option Iq)} {p:Iq} (ho:o.op=.store t x y) (hx:F.ev x=.one (.ref id (i*6) (some n))) (hH:H[id]?=some (.row ty 6 n (kWs l))) (hy:F.ev y=.agg ((dIw false p).map C.d)) (hty:TyK P t true 6) (hi:i<l.length) (hl:l.set i (some p)=l'):TOk P G o F H .any (H.set id (.row ty 6 n (kWs l'))):=by
 have h3:((dIw false p).map C.d).length=6:=rfl
 have:=QH (P:=P) (G:=G) ho hx hH rfl (show Fm (F.ev y)=some ((dIw false p).map C.d) by rw [hy];rfl) hty rfl (by rw [h3];show i*6+6≤(kWs l).length;rw [AnW];omega)
 rw [h3] at this
 simp only [Ob.cs,Ob.setC] at this
 rw [Aff p hi,hl] at this
 exact this
end
def Hk (a:Iq):Bool:=CQ a.1 || CQ a.2
def Mr (p:Prt):Iq:=(Ac p.lo 0 (-p.fr),Ac p.hi 0 (-p.fr))
def EM (y:Bk) (l:List Iq):Iq :=
 if y.kind=1 then (Ac y.vn 0 y.ve,Ac y.vn 0 y.ve)
 else if y.kind=3 then Ahe (l[0]?.getD iZ) (l[1]?.getD iZ)
 else if y.kind=4 then AnP (l[0]?.getD iZ) (l[1]?.getD iZ)
 else if y.kind=5 then AeL (l[0]?.getD iZ)
 else if y.kind=6 then Pc (l[0]?.getD iZ) (Ac y.vn 0 y.ve)
 else if y.kind=7 then Xf (l[0]?.getD iZ) (l[1]?.getD iZ)
 else if y.kind=8 then Ahf (l[0]?.getD iZ) (l[1]?.getD iZ)
 else if y.kind=9 then AeM (l[0]?.getD iZ) (l[1]?.getD iZ)
 else if y.kind=10 then RQ (l[0]?.getD iZ)
 else Ye (l[0]?.getD iZ) (Ac y.vn 0 y.ve) (Ac y.un 0 y.ue)
def BH (y:Bk) (l:List Iq) (ps:List Prt):Iq:=if y.kind=0 then (ps[((y.args[0]?).getD 0).toNat]?.map Mr).getD iZ else EM y l
theorem Ta {d:Nat} (h:IwS a n d) (hl:Hk a=false):IwS a LB LB:=by
 unfold Hk at hl
 rw [iu] at hl
 exact ⟨Abh h.s1.ok hl.1,Abh h.s2.ok hl.2,h.le⟩
theorem IwS.zero (n d:Nat):IwS iZ n d:=.pt (Sm.zero n d)
theorem Bx {l:List Iq} {d:Nat} (h:∀ p∈l,IwS p n d) (k:Nat):IwS (l[k]?.getD iZ) n d:=by
 cases hk:l[k]? with
 | none=>exact IwS.zero n d
 | some p=>exact h p (gM hk)
theorem Ef {n e:Int} (h:Dn n e):Sm (Ac n 0 e) LB LB:=by
 obtain ⟨h1,h2,h3,h4⟩:=h
 exact (Sm.shift (n:=32) (by omega) (by omega) (by omega)).more (by decide) (by decide)
theorem Hb {l:List Iq} (hl:∀ p∈l,IwS p LB LB) (hv:(y.kind=1∨y.kind=6∨y.kind=11)→Dn y.vn y.ve) (hu:y.kind=11→Dn y.un y.ue) (hk:y.kind=1∨y.kind=3∨y.kind=4∨y.kind=5∨y.kind=6∨y.kind=7∨y.kind=8∨y.kind=9∨y.kind=10∨y.kind=11):IwS (EM y l) LC LC:=by
 have a:=Bx hl 0
 have b:=Bx hl 1
 have up:∀ {r:Iq},IwS r LB LB→IwS r LC LC:=fun h=>h.more (by decide) (by decide)
 unfold EM
 generalize l[0]?.getD iZ=p at a ⊢
 generalize l[1]?.getD iZ=q at b ⊢
 rcases hk with h|h|h|h|h|h|h|h|h|h <;> simp only [h,Int.reduceEq,if_true,if_false,reduceIte]
 ·exact up (.pt (Ef (hv (.inl h))))
 ·exact (IwS.add a b (by decide:LB≤65536)).more (by decide:LB+LB+1≤LC) Auk
 ·exact (IwS.sub a b (by decide:LB≤65536)).more (by decide:LB+LB+1≤LC) Auk
 ·exact up a.neg
 ·exact (IwS.mul a (.pt (Ef (hv (.inr (.inl h))))) (by decide:LB≤30000)).more (by decide:LB+LB≤LC) (by decide:LB+LB≤LC)
 ·exact (IwS.mul a b (by decide:LB≤30000)).more (by decide:LB+LB≤LC) (by decide:LB+LB≤LC)
 ·exact up (a.min b)
 ·exact up (a.max b)
 ·exact up a.abs
 ·exact up (a.clip (Ef (hv (.inr (.inr h)))) (Ef (hu h)))
structure RR (p:Prt):Prop where
 l0 : -2147483648≤p.lo
 le:p.lo≤p.hi
 h1:p.hi<2147483648
 f0:0≤p.fr
 f1:p.fr≤30
theorem Im {z f:Int} (f0:0≤f) (f1:f≤30):gv (Ac z 0 (-f))*2 ^ f.toNat=z*2 ^ GQ:=by
 have:=Ns (p:=(z,0)) (n:=f.toNat) (by show 0+f.toNat≤65536;omega) (by omega)
 rw [show (-(f.toNat:Int)) = -f by omega,LJ] at this
 exact this
theorem UC {z f:Int} (h0 : -2147483648≤z) (h1:z<2147483648) (f0:0≤f) (f1:f≤30):Sm (Ac z 0 (-f)) 264 200:=Sm.shift (n:=64) (by omega) (by omega) (by omega)
theorem RR.iw {p:Prt} (h:RR p):IwS (Mr p) 264 200:=by
 obtain ⟨h1,h2,h3,h4,h5⟩:=h
 refine ⟨UC h1 (by omega) h4 h5,UC (by omega) h3 h4 h5,?_⟩
 have e1:=Im (z:=p.lo) h4 h5
 have e2:=Im (z:=p.hi) h4 h5
 refine Int.not_lt.1 fun hc=>?_
 have:=ld hc (Bg p.fr.toNat)
 have g2:=ci h2 (ay (Bg GQ))
 have e1':gv (Mr p).1*2 ^ p.fr.toNat=p.lo*2 ^ GQ:=e1
 have e2':gv (Mr p).2*2 ^ p.fr.toNat=p.hi*2 ^ GQ:=e2
 omega
theorem RR.scale {p:Prt} (h:RR p):Pc (Dc [(p.lo,0),(p.hi,0)]) (Ac 1 0 (-p.fr))=Mr p:=by
 have H:=h.iw
 obtain ⟨h1,h2,h3,h4,h5⟩:=h
 have s1:Sm (p.lo,0) 264 200:=Mq p.lo (by omega) (by decide)
 have s2:Sm (p.hi,0) 264 200:=Mq p.hi (by omega) (by decide)
 obtain ⟨e1,e2,e3⟩:=Ii s1 s2
 have s3:Sm (Ac 1 0 (-p.fr)) 264 200:=UC (by decide) (by decide) h4 h5
 have g2:=ci h2 (ay (Bg GQ))
 rw [LJ,LJ] at e1 e2
 have E1:gv (Dc [(p.lo,0),(p.hi,0)]).1=p.lo*2 ^ GQ:=by rw [e1];omega
 have E2:gv (Dc [(p.lo,0),(p.hi,0)]).2=p.hi*2 ^ GQ:=by rw [e2];omega
 generalize Dc [(p.lo,0),(p.hi,0)]=w at e3 E1 E2 ⊢
 have m1:=Sm.mul e3.s1 s3 (by decide)
 have m2:=Sm.mul e3.s2 s3 (by decide)
 obtain ⟨k1,k2,k3⟩:=Em m1 m1 m2 m2
 have mg:∀ {x:Pq} {z:Int},Sm x 264 200→gv x=z*2 ^ GQ→gv (BR x (Ac 1 0 (-p.fr)))=gv (Ac z 0 (-p.fr)):=fun {x z} hx hz=>by
  have a1:=GZ (p:=x) (q:=Ac 1 0 (-p.fr)) (lT (dc hx.d s3.d) (by decide))
  have a2:=Im (z:=1) h4 h5
  have a3:=Im (z:=z) h4 h5
  rw [hz] at a1
  have p1:=Bg GQ
  have p2:=Bg p.fr.toNat
  refine ew (fy p2) (ew (fy p1) ?_)
  rw [a3,iz,a1,ah (z*2 ^ GQ),a2,jb]
 have G1:=mg e3.s1 E1
 have G2:=mg e3.s2 E2
 refine Aks (n:=264+264) (d:=200+200) k3 H ?_ ?_
 ·show gv (Dc [BR w.1 (Ac 1 0 (-p.fr)),BR w.1 (Ac 1 0 (-p.fr)),BR w.2 (Ac 1 0 (-p.fr)),BR w.2 (Ac 1 0 (-p.fr))]).1=gv (Ac p.lo 0 (-p.fr))
  rw [k1,G1,G2]
  have:=H.le
  simp only [Mr] at this
  omega
 ·show gv (Dc [BR w.1 (Ac 1 0 (-p.fr)),BR w.1 (Ac 1 0 (-p.fr)),BR w.2 (Ac 1 0 (-p.fr)),BR w.2 (Ac 1 0 (-p.fr))]).2=gv (Ac p.hi 0 (-p.fr))
  rw [k2,G1,G2]
  have:=H.le
  simp only [Mr] at this
  omega
theorem Rb (h:AO ps bs os=0) {i:Nat} {p:Prt} (hp:ps[i]?=some p):RR p:=by
 have hpp:=Nk h hp
 have h3 : -2147483648≤p.lo∧p.lo≤p.hi∧p.hi<2147483648∧0≤p.fr∧p.fr≤30:=bw fun hn=>by unfold Gj at hpp;rw [if_neg hn] at hpp;cases hpp
 exact ⟨h3.1,h3.2.1,h3.2.2.1,h3.2.2.2.1,h3.2.2.2.2⟩
def Oz (vs:List (Option (Iq))) (y:Bk):List (Iq):=if y.kind=0 then [] else y.args.map fun a=>(vs[a.toNat]?.getD none).getD iZ
def tkW (ps:List Prt) (bs:List Bk) (vs:List (Option (Iq))) (i:Nat):Iq:=match bs[i]? with
 | some y=>BH y (Oz vs y) ps
 | none=>iZ
def Aoc (ps:List Prt) (bs:List Bk) (vs:List (Option (Iq))) (l:List Nat):List (Option (Iq)):=l.foldl (fun v i=>v.set i (some (tkW ps bs  v i))) vs
def Abq (dl:List Nat) (st:List (Iq)) (vs:List (Option (Iq))):List (Option (Iq)):=(dl.zip st).foldl (fun v p=>v.set p.1 (some p.2)) vs
theorem ZP (ps:List Prt) (bs:List Bk):∀ (l:List Nat) (vs:List (Option (Iq))),(Aoc ps bs  vs l).length=vs.length
 | [],vs=>rfl
 | i::l,vs=>by show (Aoc ps bs  _ l).length=_;rw [ZP ps bs  l];simp
theorem PR:∀ (dl:List Nat) (st:List (Iq)) (vs:List (Option (Iq))),(Abq dl st vs).length=vs.length
 | [],st,vs=>rfl
 | i::dl,[],vs=>rfl
 | i::dl,x::st,vs=>by show (Abq dl st _).length=_;rw [PR dl st];simp
theorem Afi (ps:List Prt) (bs:List Bk) (vs:List (Option (Iq))) {l:List Nat} {t j:Nat} (h:l[t]?=some j):Aoc ps bs  vs (l.take (t+1))=(Aoc ps bs  vs (l.take t)).set j (some (tkW ps bs  (Aoc ps bs  vs (l.take t)) j)):=by
 unfold Aoc
 rw [aq,h,eb,fa]
 rfl
theorem Wu (vs:List (Option (Iq))) {dl:List Nat} {st:List (Iq)} {t j:Nat} {p:Iq} (h:dl[t]?=some j) (h2:st[t]?=some p):Abq (dl.take (t+1)) (st.take (t+1)) vs=(Abq (dl.take t) (st.take t) vs).set j (some p):=by
 have l1:=(gS.1 h).1
 have l2:=(gS.1 h2).1
 unfold Abq
 rw [aq,aq,h,h2,eb,eb,List.zip_append (by simp;omega),fa]
 rfl
def rgS (ps:List Prt) (bs:List Bk) (st:List (Iq)) (t:Nat):List (Option (Iq)):=Aoc ps bs  (Abq (AI bs) st (List.replicate bs.length none)) ((Bn bs).take t)
def rgN (ps:List Prt) (bs:List Bk) (st:List (Iq)) (t:Nat):Iq:=tkW ps bs  (rgS ps bs st t) ((Bn bs)[t]?.getD 0)
def Eg (ps:List Prt) (bs:List Bk) (st:List (Iq)):Bool:=st.any Hk || (List.range (Bn bs).length).any fun t=>Hk (rgN ps bs st t)
def rgV (ps:List Prt) (bs:List Bk) (st:List (Iq)):List (Iq):=gW (rgS ps bs st  (Bn bs).length)
theorem Rc (ps:List Prt) (bs:List Bk) (st:List (Iq)) (t:Nat):(rgS ps bs st t).length=bs.length:=by unfold rgS;rw [ZP,PR,dt]
theorem ZQ (h:(Bn bs)[t]?=some j):rgS ps bs st  (t+1)=(rgS ps bs st t).set j (some (rgN ps bs st t)):=by
 unfold rgN
 rw [h]
 exact Afi ps bs  _ h
theorem Aod (ps:List Prt) (bs:List Bk) (st:List (Iq)):rgS ps bs st  0=Abq (AI bs) st (List.replicate bs.length none):=rfl
structure Afj (vs:List (Option (Iq))) (D:Nat→Prop):Prop where
 at_:∀ i,D i→∃ p,vs[i]?=some (some p)∧IwS p LB LB
theorem Afj.set {vs:List (Option (Iq))} {D D':Nat→Prop} (h:Afj vs D) {j:Nat} {p:Iq} (hj:j<vs.length) (hp:IwS p LB LB) (hD:∀ i,D' i→D i∨i=j):Afj (vs.set j (some p)) D':=⟨fun i hi=>by
 rw [bk]
 by_cases hij:j=i
 ·rw [if_pos hij,if_pos hj]
  exact ⟨p,rfl,hp⟩
 ·rw [if_neg hij]
  rcases hD i hi with h1|h1
  ·exact h.at_ i h1
  ·exact absurd h1.symm hij⟩
theorem AiL {k:Nat} {p:Iq} (h:st[k]?=some p) (hl:Hk p=true):Eg ps bs st  = true:=by
 unfold Eg
 rw [eg]
 exact .inl (List.any_eq_true.2 ⟨p,gM h,hl⟩)
theorem AiM (h:t<(Bn bs).length) (hl:Hk (rgN ps bs st t)=true):Eg ps bs st  = true:=by
 unfold Eg
 rw [eg]
 exact .inr (List.any_eq_true.2 ⟨t,List.mem_range.2 h,hl⟩)
theorem AiN (h1:∀ p∈st,Hk p=false) (h2:∀ t,t<(Bn bs).length→Hk (rgN ps bs st t)=false):Eg ps bs st  = false:=by
 unfold Eg
 rw [iu]
 exact ⟨List.any_eq_false.2 fun p hp=>by rw [h1 p hp];decide,List.any_eq_false.2 fun t ht=>by rw [h2 t (List.mem_range.1 ht)];decide⟩
theorem ZR (hn:∀ p∈st,IwS p LB LB) (hl:st.length=(AI bs).length):Afj (Abq (AI bs) st (List.replicate bs.length none)) (Wd bs 0):=by
 have key:∀ t,t≤(AI bs).length→Afj (Abq ((AI bs).take t) (st.take t) (List.replicate bs.length none)) (fun i=>i∈(AI bs).take t):=fun t=>by
  induction t with
  | zero=>intro _;exact ⟨fun i hi=>by simp at hi⟩
  | succ t ih =>
   intro ht
   obtain ⟨j,hj⟩:∃ j,(AI bs)[t]?=some j:=⟨_,gE (by omega)⟩
   obtain ⟨p,hp⟩:∃ p,st[t]?=some p:=⟨_,gE (by omega)⟩
   have h1:=hn p (gM hp)
   rw [Wu _ hj hp]
   refine (ih (by omega)).set (by rw [PR,dt];have:=gM hj;unfold AI at this;rw [lc,io] at this;exact this.1) h1 fun i hi=>?_
   rw [aq,hj] at hi
   simpa using hi
 have h:=key (AI bs).length (aa _)
 rw [au,ar (by omega)] at h
 refine ⟨fun i hi=>h.at_ i ?_⟩
 rcases hi with ⟨h1,h2⟩|h1
 ·unfold AI
  rw [lc,io,h2]
  exact ⟨h1,rfl⟩
 ·simp at h1
theorem Wv (h:Afj (rgS ps bs st t) (Wd bs t)) (hj:(Bn bs)[t]?=some j) (hsm:IwS (rgN ps bs st t) LB LB):Afj (rgS ps bs st  (t+1)) (Wd bs (t+1)):=by
 rw [ZQ hj]
 refine h.set (by rw [Rc];exact (Ia hj).1) hsm fun i hi=>?_
 rcases hi with h1|h1
 ·exact .inl (.inl h1)
 ·rw [aq,hj] at h1
  rcases List.mem_append.1 h1 with h1|h1
  ·exact .inl (.inr h1)
  ·exact .inr (by simpa using h1)
theorem AiO (he:AO ps bs os=0) {st:List (Iq)} (h:Afj (rgS ps bs st  (Bn bs).length) (Wd bs (Bn bs).length)) {i:Nat} (hi:i<bs.length):∃ p,(rgS ps bs st  (Bn bs).length)[i]?=some (some p)∧IwS p LB LB:=by
 refine h.at_ i ?_
 by_cases hk:AK bs i=2
 ·exact .inl ⟨hi,hk⟩
 ·refine .inr ?_
  rw [au]
  exact Uh (Lz he).2.2 hi hk
theorem Ms {l:List Iq} {k:Nat} (h:l[k]?=some a):((Ay (dIw false) l).drop (k*6)).take 6=dIw false a:=FQ (f:=dIw false) (s:=6) (fun _=>rfl) h
structure Asy (ps:List Prt) (bs:List Bk) (vs:List (Option Iq)) (y:Bk):Prop where
 hk:y.kind=0∨y.kind=1∨y.kind=3∨y.kind=4∨y.kind=5∨y.kind=6∨y.kind=7∨y.kind=8∨y.kind=9∨y.kind=10∨y.kind=11
 args:y.kind≠0→∀ (k:Nat) (a:Int),y.args[k]?=some a→∃ p,0≤a∧a.toNat<bs.length∧vs[a.toNat]?=some (some p)∧(Oz vs y)[k]?=some p
 len:y.args.length≤2
 hl:∀ k:Nat,(k=0∧y.kind≠0∧y.kind≠1∨k=1∧(y.kind=3∨y.kind=4∨y.kind=7∨y.kind=8∨y.kind=9))→∃ p i,(Oz vs y)[k]?=some p∧y.args[k]?=some ((i:Nat):Int)∧(gW vs)[i]?=some p
 hs:∀ p∈Oz vs y,IwS p LB LB
 hin:y.kind=0→∃ (i:Nat) (pp:Prt),y.args[0]?=some (i:Int)∧ps[i]?=some pp∧RR pp
 hsv:(y.kind=1∨y.kind=6∨y.kind=11)→Dn y.vn y.ve
 hsu:y.kind=11→Dn y.un y.ue
 hcl:y.kind=11→Nt (Ac y.vn 0 y.ve) (Ac y.un 0 y.ue)≤0
 sm:IwS (BH y (Oz vs y) ps) LC LC
theorem Afk (he:AO ps bs os=0) {vs:List (Option Iq)} {j:Nat} {y:Bk} (hy:bs[j]?=some y) (hk2:y.kind≠2) (hv:y.kind≠0→∀ a∈y.args,0≤a→a<(bs.length:Int)→∃ p,vs[a.toNat]?=some (some p)∧IwS p LB LB):Asy ps bs vs y:=by
 have hK:=Np he hy
 have hA:=Co he hy
 have hlen:y.args.length≤2:=by
  have h1:=hA.1
  have h2:=hA.2.1
  unfold Bc at h1 h2
  (repeat' split at h2) <;> omega
 have args:y.kind≠0→∀ (k:Nat) (a:Int),y.args[k]?=some a→∃ p,0≤a∧a.toNat<bs.length∧vs[a.toNat]?=some (some p)∧(Oz vs y)[k]?=some p∧IwS p LB LB:=fun h0 k a ha=>by
  have hm:=gM ha
  have hb:=hA.2.2 a hm
  rw [show Cy ps.length bs.length y.kind=bs.length from if_neg h0] at hb
  obtain ⟨p,hp,hsm⟩:=hv h0 a hm hb.1 hb.2
  exact ⟨p,hb.1,by omega,hp,by unfold Oz;rw [if_neg h0,ag,ha,bo,hp];rfl,hsm⟩
 have hs:y.kind≠0→∀ p∈Oz vs y,IwS p LB LB:=fun h0 p hp=>by
  obtain ⟨k,hk⟩:=List.mem_iff_getElem?.1 hp
  have hk':=hk
  unfold Oz at hk'
  rw [if_neg h0,ag,dk] at hk'
  obtain ⟨a,ha,_⟩:=hk'
  obtain ⟨q,_,_,_,h4,h5⟩:=args h0 k a ha
  rw [hk] at h4
  cases h4
  exact h5
 have hin:y.kind=0→∃ (i:Nat) (pp:Prt),y.args[0]?=some (i:Int)∧ps[i]?=some pp∧RR pp:=fun h0=>by
  have h1:=hA.2.1
  rw [h0] at h1
  have hl1:y.args.length=1:=by unfold Bc at h1;(repeat' split at h1) <;> omega
  obtain ⟨a,ha⟩:∃ a,y.args[0]?=some a:=⟨_,gE (by omega)⟩
  have hb:=hA.2.2 a (gM ha)
  rw [show Cy ps.length bs.length y.kind=ps.length from if_pos h0] at hb
  obtain ⟨p,hp⟩:∃ p,ps[a.toNat]?=some p:=⟨_,gE (by omega)⟩
  exact ⟨a.toNat,p,by rw [ha];congr 1;omega,hp,Rb he hp⟩
 have hsv:(y.kind=1∨y.kind=6∨y.kind=11)→Dn y.vn y.ve:=fun h=>HW he hy (by unfold Sv;rcases h with h|h|h <;> rw [h] <;> rfl)
 have hsu:y.kind=11→Dn y.un y.ue:=fun h=>(GU he hy h).2.1
 have h0s:y.kind=0→∀ p∈([]:List Iq),IwS p LB LB:=fun _ p hp=>by cases hp
 have hk3:y.kind=0∨y.kind=1∨y.kind=3∨y.kind=4∨y.kind=5∨y.kind=6∨y.kind=7∨y.kind=8∨y.kind=9∨y.kind=10∨y.kind=11:=by clear hin args hs;omega
 refine ⟨hk3,fun h0 k a ha=>?_,hlen,fun k hk=>?_,?_,hin,hsv,hsu,fun h=>(GU he hy h).2.2,?_⟩
 ·obtain ⟨p,h1,h2,h3,h4,_⟩:=args h0 k a ha
  exact ⟨p,h1,h2,h3,h4⟩
 ·have h0:y.kind≠0:=by omega
  have hkl:k<y.args.length:=by
   have h1:=hA.2.1
   unfold Bc at h1
   (repeat' split at h1) <;> omega
  obtain ⟨a,ha⟩:∃ a,y.args[k]?=some a:=⟨_,gE hkl⟩
  obtain ⟨p,h1,h2,h3,h4,_⟩:=args h0 k a ha
  exact ⟨p,a.toNat,h4,by rw [ha];congr 1;omega,Asx h3⟩
 ·by_cases h0:y.kind=0
  ·unfold Oz;rw [if_pos h0];exact h0s h0
  ·exact hs h0
 ·unfold BH
  by_cases h0:y.kind=0
  ·rw [if_pos h0]
   obtain ⟨i,pp,q1,q3,q4⟩:=hin h0
   rw [q1]
   simp only [bd,ao,q3,bo]
   exact q4.iw.more (by decide) (by decide)
  ·rw [if_neg h0]
   exact Hb (hs h0) hsv hsu (by clear hin args hs;omega)
theorem ZS (he:AO ps bs os=0) {vs:List (Option Iq)} {t j:Nat} (hj:(Bn bs)[t]?=some j) (hv:Afj vs (Wd bs t)):∃ y,bs[j]?=some y∧y.kind≠2∧Asy ps bs vs y:=by
 obtain ⟨hjl,hk2⟩:=Ia hj
 obtain ⟨y,hy⟩:∃ y,bs[j]?=some y:=⟨_,gE hjl⟩
 rw [GV hy] at hk2
 refine ⟨y,hy,hk2,Afk he hy hk2 fun h0 a ha a0 a1=>?_⟩
 have hsplit:Bn bs=(Bn bs).take t++j::(Bn bs).drop (t+1):=by
  obtain ⟨hlt,he⟩:=gS.1 hj
  rw [←he,←dp hlt,fp]
 have hd:=Nd hsplit (a:=a) (by rw [Uo hy h0];exact ha)
 exact hv.at_ a.toNat (hd.imp (fun h=>⟨by omega,h⟩) id)
theorem Aoe {P:Program} {G:World→Prop} {o:Oper} {F:Frm} {ts:Array TypeId} {x y z u:Operand} {k:IntKind} {p q r:Int} (ho:o.op=.call { callee:=.builtin .max,args:=#[x,y,z,u],argTypes:=ts }) (hx:F.ev x=.one (.d (.val (.int k p)))) (hy:F.ev y=.one (.d (.val (.int k q)))) (hz:F.ev z=.one (.d (.val (.int k r)))) (hu:F.ev u=.one (.d (.val (.int k s)))):Bd P G o F H (.one (.d (.val (.int k (max (max (max p q) r) s))))) []:=Cb fun b0 m a hp hcx hor=>by
 have ex:=Df (m:=m) (v:=a.eval x) (by rw [←hx];exact Be hor (by rw [ho];simp [Op.operands,Call.operands]))
 have ey:=Df (m:=m) (v:=a.eval y) (by rw [←hy];exact Be hor (by rw [ho];simp [Op.operands,Call.operands]))
 have ez:=Df (m:=m) (v:=a.eval z) (by rw [←hz];exact Be hor (by rw [ho];simp [Op.operands,Call.operands]))
 have eu:=Df (m:=m) (v:=a.eval u) (by rw [←hu];exact Be hor (by rw [ho];simp [Op.operands,Call.operands]))
 refine ⟨_,?_,Bo.val rfl⟩
 unfold execOp
 have key:∀ a b:Int,(if a<b then b else a)=max a b:=fun a b=>by split <;> omega
 simp [ho,resolve,invoke,builtin,ex,ey,ez,eu,Builtin.max_,Builtin.max2,key]
theorem Aku (h:p:=by
 rw [if_pos hs,if_pos hs] at VA
 repeat' (with_reducible first|refine qq ?_|(refine Tx 0 ?_;refine gN xBo <| gN (xAl Ao) ?_)|(refine Tx 1 ?_;refine gO xL <| gO (xCl func20 (VA)) <| gO xMt <| gO (by exact EO rfl rfl rfl) <| gO xEx <| gN (xAl Ao) <| gZ (xSk Ad) <| gO xA ?_)|(refine Tx 2 ?_;refine gO xL <| gZ (xSk Ad) ?_))
 exact AH rfl (.cons_ (rvW Ad rfl) .nil_)):p:=h
theorem PZ (n e:Int) (hs:Dn n e):CV prog An 235 [.agg [dI n,dI e]] [aDy false (Ac n 0 e).1 (Ac n 0 e).2]:=by
 refine cvz func235 ntmps235 ?_
 have VA:=Uk n e
 exact Aku
theorem Asz (h:p:=by first|exact xCl func212 (B1)|exact xCl func212 (B2)):p:=h
theorem Ww (a:Iq) (n1:Nf a.1.1 a.1.2) (n2:Nf a.2.1 a.2.2) (l1:(Ae a.1.1.natAbs).length≤40000) (l2:(Ae a.2.1.natAbs).length≤40000):CV prog An 178 [aIw false a] [aB (Hk a)]:=by
 refine cvz func178 ntmps178 ?_
 have B1:=IR a.1.1 a.1.2 n1 l1
 have B2:=IR a.2.1 a.2.2 n2 l2
 have hm:decide ((4096:Int)<max (max (max ((Bu a.1.1.natAbs:Nat):Int) (a.1.2:Int)) ((Bu a.2.1.natAbs:Nat):Int)) (a.2.2:Int))=Hk a:=by unfold Hk CQ AnC;rw [lg,eg,decide_eq_true_eq,decide_eq_true_eq,decide_eq_true_eq];omega
 repeat' (with_reducible first|refine qq ?_|(refine Tx 0 ?_;refine gN xBo <| gO xA ?_)|(refine BU (id:=1) AN (by kernel_rfl) ?_;refine gP xF <| gP xL <| gP Asz <| gP xF <| gP xF <| gP xD <| gP xF <| gP xL <| gP Asz <| gP xF <| gP xF <| gP xD <| gP (by first|exact Aoe rfl rfl rfl rfl rfl|exact Gf rfl rfl rfl) <| gP (by first|exact TN rfl rfl rfl hm|exact xGt) <| gP xA ?_;refine Ke ?_))
 exact AH rfl (.cons_ (Fi rfl rfl) .nil_)
theorem GG (h:p:=by
 exact AH rfl (.cons_ (rvJ Ag rfl) .nil_)):p:=h
theorem Dg (t u:Bool) (y:Bk) (vals:List Iq) (k:Nat) {i:Nat} {p:Iq} (hk:y.args[k]?=some (i:Int)) (hp:vals[i]?=some p) (ha:y.args.length≤1000000) (hv:vals.length≤1000000):CV prog An 234 [aI (k:Int),.one (.ptr true [.row u 6 vals.length (Ay (dIw false) vals)]),.one (.ptr true (dBk t y))] [aIw false p]:=by
 refine cvz func234 ntmps234 ?_
 have l1:=(gS.1 hk).1
 have l2:=(gS.1 hp).1
 repeat' (with_reducible first|refine qq ?_|(refine Tx 0 ?_;refine gN (xAl Ap) ?_)|(refine AE (id:=1) 8 AN (by kernel_rfl) ?_;dsimp only [List.take,List.drop];refine gP xD <| gP xF <| gP xD <| gP xM <| gP (by first|exact xIr Af (AG hk)|exact xIr Af (Ms hp)) <| gP xD <| gP (xIr Aj (Ms hp)) <| gP xL ?_;refine Ke ?_;refine gZ (xSk Ag) ?_))
 exact GG
theorem Rd (k:p') (h:Hd9 p'→p:=by with_reducible first|(intro Z9;refine qq ?_;exact Z9.o)|(intro Z9;refine Tx 0 ?_;refine gN xBo <| gN xBo <| gN xBo <| gN (xAl Ap) ?_;exact Z9.o)|(intro Z9;refine Tx 1 ?_;refine gO (by first|exact xMf [(2,0,none),(1,0,none)]|exact CS rfl (by repeat' first|exact BJ rfl rfl|refine AZ rfl rfl rfl ?_)) <| gO xA ?_;exact Z9.o)|(intro Z9;refine Tx 2 ?_;refine gO xF <| gO xD ?_;exact Z9.o)|(intro Z9;refine Tx 3 ?_;refine gO xEq <| gO xA ?_;exact Z9.o)|fail):p:=h ⟨k⟩
theorem RT (k:p') (h:Hd9 p'→p:=by with_reducible first|(intro Z9;refine Tx 6 ?_;refine gO xEq <| gO xA ?_;exact Z9.o)|fail):p:=h ⟨k⟩
theorem AsA (h:p:=by first|exact xCl func235 (RV)|exact xCl func235 (RU)):p:=h
theorem Abr (t:Bool) (ps:List Prt) (bs:List Bk) (os:List Int) (y:Bk) (vals l:List Iq) (hk:y.kind=0∨y.kind=1∨y.kind=3∨y.kind=4∨y.kind=5∨y.kind=6∨y.kind=7∨y.kind=8∨y.kind=9∨y.kind=10∨y.kind=11) (ha:y.args.length≤1000000) (hvl:vals.length≤1000000) (hpl:ps.length≤1000000)
  (hl:∀ k:Nat,(k=0∧y.kind≠0∧y.kind≠1∨k=1∧(y.kind=3∨y.kind=4∨y.kind=7∨y.kind=8∨y.kind=9))→∃ p i,l[k]?=some p∧y.args[k]?=some ((i:Nat):Int)∧vals[i]?=some p) (hs:∀ p∈l,IwS p 20000 20000)
  (hin:y.kind=0→∃ (i:Nat) (pp:Prt),y.args[0]?=some (i:Int)∧ps[i]?=some pp∧RR pp)
  (hsv:(y.kind=1∨y.kind=6∨y.kind=11)→Dn y.vn y.ve) (hsu:y.kind=11→Dn y.un y.ue) (hcl:y.kind=11→Nt (Ac y.vn 0 y.ve) (Ac y.un 0 y.ue)≤0):CV prog An 179 [aDg t ps bs os,.agg (dBk t y),.one (.row true 6 vals.length (Ay (dIw false) vals))] [aIw false (BH y l ps)]:=by
 refine cvz func179 ntmps179 ?_
 rcases hk with h|h|h|h|h|h|h|h|h|h|h
 ·
  obtain ⟨i0,pp,q0,w0,ps0⟩:=hin h
  have l1:=(gS.1 q0).1
  have l3:=(gS.1 w0).1
  have f0:=ps0.l0
  have f1:=ps0.le
  have f2:=ps0.h1
  have f3:=ps0.f0
  have f4:=ps0.f1
  have IN:=Wq pp.lo pp.hi (by omega) (by omega)
  have OF:=Ft 1 (by decide) (by decide)
  have SH:=BE 1 0 (-pp.fr) ⟨by decide,fun h=>absurd rfl h⟩ (lT (AJ (k:=2) (by decide)) (by decide)) (by omega)
  have SC:=IZ (Dc [(pp.lo,0),(pp.hi,0)]) (Ac 1 0 (-pp.fr)) (Ii (Mq pp.lo (by omega) (by decide)) (Mq pp.hi (by omega) (by decide))).2.2 ((UC (by decide) (by decide) f3 f4).more (by decide) (by decide))
  rw [ps0.scale] at SC
  have hb:BH y l ps=Mr pp:=by unfold BH;rw [if_pos h,q0];simp [w0]
  rw [hb]
  repeat' (with_reducible first|refine Rd ?_|(refine AE (id:=4) 9 AN (by kernel_rfl) ?_;dsimp only [List.take,List.drop];refine gP xF <| gP xD <| gP xF <| gP xD <| gP (xIr Af (AG q0)) <| gP xD <| gP (xIr BI (FX w0)) <| gP xL <| gQ (xAl Ok) ?_;refine Ke ?_;refine gZ (xSk Mk) ?_)|(refine AE (id:=5) 11 AN (by kernel_rfl) ?_;dsimp only [List.take,List.drop];refine gP xF <| gP xD <| gP xF <| gP xD <| gP (xCl func139 (IN)) <| gP (xCl func68 (OF)) <| gP xF <| gP xD <| gP (by first|exact TG rfl rfl (by omega)|exact AcY rfl rfl) <| gP (xCl func21 (SH)) <| gP (xCl func138 (SC)) ?_;refine Ke ?_;refine gZ (xSk Ag) ?_))
  exact GG
 ·
  have hv:=hsv (by omega)
  have RV:=PZ y.vn y.ve hv
  have sv:=(Ef hv).more LBx LBx
  have C:=DN (Ac y.vn 0 y.ve) sv.ok sv.lz
  have hb:BH y l ps=((Ac y.vn 0 y.ve),(Ac y.vn 0 y.ve)):=by unfold BH EM;simp [h]
  rw [hb]
  repeat' (with_reducible first|refine Rd ?_|refine RT ?_|(refine Tx 7 ?_;refine gO xF <| gO xL <| gO (xCl func235 (RV)) <| gO (xCl func140 (C)) <| gZ (xSk Ag) ?_))
  exact GG
 ·
  obtain ⟨p,i0,h0,q0,r0⟩:=hl 0 (by omega)
  have sp:=(hs p (gM h0))
  have A0:=Dg t true y vals 0 q0 r0 ha hvl
  obtain ⟨q,i1,h1,q1,r1⟩:=hl 1 (by omega)
  have sq:=(hs q (gM h1))
  have A1:=Dg t true y vals 1 q1 r1 ha hvl
  have C:=Uw p q sp sq
  have hb:BH y l ps=Ahe p q:=by unfold BH EM;simp [h,h0,h1]
  rw [hb]
  repeat' (with_reducible first|refine Rd ?_|refine RT ?_|(refine Tx 8 ?_;refine gO xEq <| gO xA ?_)|(refine Tx 9 ?_;refine gO xM <| gO (xCc func234 A0 (args:=[_]) rfl) <| gO xM <| gO (xCc func234 A1 (args:=[_]) rfl) <| gO (xCl func143 (C)) <| gZ (xSk Ag) ?_))
  exact GG
 ·
  obtain ⟨p,i0,h0,q0,r0⟩:=hl 0 (by omega)
  have sp:=(hs p (gM h0))
  have A0:=Dg t true y vals 0 q0 r0 ha hvl
  obtain ⟨q,i1,h1,q1,r1⟩:=hl 1 (by omega)
  have sq:=(hs q (gM h1))
  have A1:=Dg t true y vals 1 q1 r1 ha hvl
  have C:=ZO p q sp sq
  have hb:BH y l ps=AnP p q:=by unfold BH EM;simp [h,h0,h1]
  rw [hb]
  repeat' (with_reducible first|refine Rd ?_|refine RT ?_|(refine Tx 8 ?_;refine gO xEq <| gO xA ?_)|(refine Tx 10 ?_;refine gO xEq <| gO xA ?_)|(refine Tx 11 ?_;refine gO xM <| gO (xCc func234 A0 (args:=[_]) rfl) <| gO xM <| gO (xCc func234 A1 (args:=[_]) rfl) <| gO (xCl func144 (C)) <| gZ (xSk Ag) ?_))
  exact GG
 ·
  obtain ⟨p,i0,h0,q0,r0⟩:=hl 0 (by omega)
  have sp:=(hs p (gM h0))
  have A0:=Dg t true y vals 0 q0 r0 ha hvl
  have C:=Uv p sp
  have hb:BH y l ps=AeL p:=by unfold BH EM;simp [h,h0]
  rw [hb]
  repeat' (with_reducible first|refine Rd ?_|refine RT ?_|(refine Tx 8 ?_;refine gO xEq <| gO xA ?_)|(refine Tx 10 ?_;refine gO xEq <| gO xA ?_)|(refine Tx 12 ?_;refine gO xEq <| gO xA ?_)|(refine Tx 14 ?_;refine gO xEq <| gO xA ?_)|(refine Tx 15 ?_;refine gO xM <| gO (xCc func234 A0 (args:=[_]) rfl) <| gO (xCl func146 (C)) <| gZ (xSk Ag) ?_))
  exact GG
 ·
  obtain ⟨p,i0,h0,q0,r0⟩:=hl 0 (by omega)
  have sp:=(hs p (gM h0))
  have A0:=Dg t true y vals 0 q0 r0 ha hvl
  have hv:=hsv (by omega)
  have RV:=PZ y.vn y.ve hv
  have sv:=(Ef hv).more LBx LBx
  have C:=IZ p (Ac y.vn 0 y.ve) sp sv
  have hb:BH y l ps=Pc p (Ac y.vn 0 y.ve):=by unfold BH EM;simp [h,h0]
  rw [hb]
  repeat' (with_reducible first|refine Rd ?_|refine RT ?_|(refine Tx 8 ?_;refine gO xEq <| gO xA ?_)|(refine Tx 10 ?_;refine gO xEq <| gO xA ?_)|(refine Tx 12 ?_;refine gO xEq <| gO xA ?_)|(refine Tx 14 ?_;refine gO xEq <| gO xA ?_)|(refine Tx 16 ?_;refine gO xEq <| gO xA ?_)|(refine Tx 18 ?_;refine gO xEq <| gO xA ?_)|(refine AE (id:=19) 6 AN (by kernel_rfl) ?_;dsimp only [List.take,List.drop];refine gP xM <| gP (xCc func234 A0 (args:=[_]) rfl) <| gP xF <| gP xL <| gP (xCl func235 (RV)) <| gP (xCl func138 (C)) ?_;refine Ke ?_;refine gZ (xSk Ag) ?_))
  exact GG
 ·
  obtain ⟨p,i0,h0,q0,r0⟩:=hl 0 (by omega)
  have sp:=(hs p (gM h0))
  have A0:=Dg t true y vals 0 q0 r0 ha hvl
  obtain ⟨q,i1,h1,q1,r1⟩:=hl 1 (by omega)
  have sq:=(hs q (gM h1))
  have A1:=Dg t true y vals 1 q1 r1 ha hvl
  have C:=Uz p q sp sq
  have hb:BH y l ps=Xf p q:=by unfold BH EM;simp [h,h0,h1]
  rw [hb]
  repeat' (with_reducible first|refine Rd ?_|refine RT ?_|(refine Tx 8 ?_;refine gO xEq <| gO xA ?_)|(refine Tx 10 ?_;refine gO xEq <| gO xA ?_)|(refine Tx 12 ?_;refine gO xEq <| gO xA ?_)|(refine Tx 13 ?_;refine gO xM <| gO (xCc func234 A0 (args:=[_]) rfl) <| gO xM <| gO (xCc func234 A1 (args:=[_]) rfl) <| gO (xCl func145 (C)) <| gZ (xSk Ag) ?_))
  exact GG
 ·
  obtain ⟨p,i0,h0,q0,r0⟩:=hl 0 (by omega)
  have sp:=(hs p (gM h0))
  have A0:=Dg t true y vals 0 q0 r0 ha hvl
  obtain ⟨q,i1,h1,q1,r1⟩:=hl 1 (by omega)
  have sq:=(hs q (gM h1))
  have A1:=Dg t true y vals 1 q1 r1 ha hvl
  have C:=Ux p q sp sq
  have hb:BH y l ps=Ahf p q:=by unfold BH EM;simp [h,h0,h1]
  rw [hb]
  repeat' (with_reducible first|refine Rd ?_|refine RT ?_|(refine Tx 8 ?_;refine gO xEq <| gO xA ?_)|(refine Tx 10 ?_;refine gO xEq <| gO xA ?_)|(refine Tx 12 ?_;refine gO xEq <| gO xA ?_)|(refine Tx 14 ?_;refine gO xEq <| gO xA ?_)|(refine Tx 16 ?_;refine gO xEq <| gO xA ?_)|(refine Tx 18 ?_;refine gO xEq <| gO xA ?_)|(refine Tx 20 ?_;refine gO xEq <| gO xA ?_)|(refine Tx 21 ?_;refine gO xM <| gO (xCc func234 A0 (args:=[_]) rfl) <| gO xM <| gO (xCc func234 A1 (args:=[_]) rfl) <| gO (xCl func148 (C)) <| gZ (xSk Ag) ?_))
  exact GG
 ·
  obtain ⟨p,i0,h0,q0,r0⟩:=hl 0 (by omega)
  have sp:=(hs p (gM h0))
  have A0:=Dg t true y vals 0 q0 r0 ha hvl
  obtain ⟨q,i1,h1,q1,r1⟩:=hl 1 (by omega)
  have sq:=(hs q (gM h1))
  have A1:=Dg t true y vals 1 q1 r1 ha hvl
  have C:=Uy p q sp sq
  have hb:BH y l ps=AeM p q:=by unfold BH EM;simp [h,h0,h1]
  rw [hb]
  repeat' (with_reducible first|refine Rd ?_|refine RT ?_|(refine Tx 8 ?_;refine gO xEq <| gO xA ?_)|(refine Tx 10 ?_;refine gO xEq <| gO xA ?_)|(refine Tx 12 ?_;refine gO xEq <| gO xA ?_)|(refine Tx 14 ?_;refine gO xEq <| gO xA ?_)|(refine Tx 16 ?_;refine gO xEq <| gO xA ?_)|(refine Tx 18 ?_;refine gO xEq <| gO xA ?_)|(refine Tx 20 ?_;refine gO xEq <| gO xA ?_)|(refine Tx 22 ?_;refine gO xEq <| gO xA ?_)|(refine Tx 23 ?_;refine gO xM <| gO (xCc func234 A0 (args:=[_]) rfl) <| gO xM <| gO (xCc func234 A1 (args:=[_]) rfl) <| gO (xCl func149 (C)) <| gZ (xSk Ag) ?_))
  exact GG
 ·
  obtain ⟨p,i0,h0,q0,r0⟩:=hl 0 (by omega)
  have sp:=(hs p (gM h0))
  have A0:=Dg t true y vals 0 q0 r0 ha hvl
  have C:=UA p sp
  have hb:BH y l ps=RQ p:=by unfold BH EM;simp [h,h0]
  rw [hb]
  repeat' (with_reducible first|refine Rd ?_|refine RT ?_|(refine Tx 8 ?_;refine gO xEq <| gO xA ?_)|(refine Tx 10 ?_;refine gO xEq <| gO xA ?_)|(refine Tx 12 ?_;refine gO xEq <| gO xA ?_)|(refine Tx 14 ?_;refine gO xEq <| gO xA ?_)|(refine Tx 16 ?_;refine gO xEq <| gO xA ?_)|(refine Tx 17 ?_;refine gO xM <| gO (xCc func234 A0 (args:=[_]) rfl) <| gO (xCl func147 (C)) <| gZ (xSk Ag) ?_))
  exact GG
 ·
  obtain ⟨p,i0,h0,q0,r0⟩:=hl 0 (by omega)
  have sp:=(hs p (gM h0))
  have A0:=Dg t true y vals 0 q0 r0 ha hvl
  have hv:=hsv (by omega)
  have RV:=PZ y.vn y.ve hv
  have sv:=(Ef hv).more LBx LBx
  have hu:=hsu h
  have RU:=PZ y.un y.ue hu
  have su:=(Ef hu).more LBx LBx
  have C:=Wr p (Ac y.vn 0 y.ve) (Ac y.un 0 y.ue) sp sv su (hcl h)
  have hb:BH y l ps=Ye p (Ac y.vn 0 y.ve) (Ac y.un 0 y.ue):=by unfold BH EM;simp [h,h0]
  rw [hb]
  repeat' (with_reducible first|refine Rd ?_|refine RT ?_|(refine Tx 8 ?_;refine gO xEq <| gO xA ?_)|(refine Tx 10 ?_;refine gO xEq <| gO xA ?_)|(refine Tx 12 ?_;refine gO xEq <| gO xA ?_)|(refine Tx 14 ?_;refine gO xEq <| gO xA ?_)|(refine Tx 16 ?_;refine gO xEq <| gO xA ?_)|(refine Tx 18 ?_;refine gO xEq <| gO xA ?_)|(refine Tx 20 ?_;refine gO xEq <| gO xA ?_)|(refine Tx 22 ?_;refine gO xEq <| gO xA ?_)|(refine FK (id:=24) 13 [(13,11)] AN (by kernel_rfl) ?_;dsimp only [List.take,List.drop];refine gP xM <| gP (xCc func234 A0 (args:=[_]) rfl) <| gP xF <| gP xL <| gP AsA <| gP xF <| gP xL <| gP AsA <| gP (xCl func150 (C)) <| gP xMt <| gP (by exact EO rfl rfl rfl) <| gP xEx <| gQ (xAl Ap) ?_;refine Ke ?_;refine gZ (xSk Ag) <| gO xA ?_)|(refine Tx 25 ?_;refine gO xL <| gZ (xSk Ag) ?_))
  exact GG
abbrev ivQ (q:Rv × Rv):Iq:=(rvP q.1,rvP q.2)
def Acd (qs:List (Rv × Rv)):D:=.row false 6 qs.length (Ay (dIr false) qs)
def AsB (l:List Iq):A:=.one (.row false 6 l.length (Ay (dIw false) l))
abbrev ivC (q:Rv × Rv):Bool:=ivR q.1 q.2
def rgE (ps:List Prt) (bs:List Bk) (os:List Int) (qs:List (Rv × Rv)):Int :=
 if AO ps bs os≠0 then AO ps bs os else if qs.length≠(AI bs).length then 11 else if qs.all ivC=false then 2 else if Eg ps bs (qs.map ivQ)=true then 4 else 0
section
variable {ps:List Prt} {bs:List Bk} {os:List Int} {qs:List (Rv × Rv)}
theorem rgE1 (h:AO ps bs os≠0):rgE ps bs os qs=AO ps bs os:=by unfold rgE;rw [if_pos h]
theorem rgE2 (h:AO ps bs os=0) (h2:qs.length≠(AI bs).length):rgE ps bs os qs=11:=by unfold rgE;rw [if_neg (not_not_intro h),if_pos h2]
theorem rgE3 (h:AO ps bs os=0) (h2:qs.length=(AI bs).length) (h3:qs.all ivC=false):rgE ps bs os qs=2:=by unfold rgE;rw [if_neg (not_not_intro h),if_neg (not_not_intro h2),if_pos h3]
theorem rgE4 (h:AO ps bs os=0) (h2:qs.length=(AI bs).length) (h3:¬ qs.all ivC=false):rgE ps bs os qs=if Eg ps bs (qs.map ivQ)=true then 4 else 0:=by unfold rgE;rw [if_neg (not_not_intro h),if_neg (not_not_intro h2),if_neg h3]
end
theorem Wx {qs:List (Rv × Rv)} {k:Nat} (h:qs[k]?=some q):((Ay (dIr false) qs).drop (k*6)).take 6=dIr false q:=FQ (f:=dIr false) (s:=6) (fun _=>rfl) h
theorem Wy (hr:RvL q.1) (hs:RvL q.2) (h:ivC q=true):IwS (ivQ q) 1280000 65536∧dIr false q=dIw false (ivQ q)∧(Ae (rvP q.1).1.natAbs).length≤40000∧(Ae (rvP q.2).1.natAbs).length≤40000:=by
 obtain ⟨e,n1,n2,g,k1,k2⟩:=Afb hr hs h
 exact ⟨⟨AeY (p:=rvP q.1) n1 (k:=40000) (k1 ▸ hr.2) (by decide),AeY (p:=rvP q.2) n2 (k:=40000) (k2 ▸ hs.2) (by decide),g⟩,e,k1 ▸ hr.2,k2 ▸ hs.2⟩
theorem Aof {qs:List (Rv × Rv)} {k:Nat} (h:qs[k]?=some q) (hv:ivC q=false):qs.all ivC=false:=by
 rw [List.all_eq_false]
 exact ⟨q,gM h,by rw [hv];decide⟩
theorem Afl {d:Nat} (h:IwS a n d):Lo a a=a:=by
 obtain ⟨e1,e2,e3⟩:=Em h.s1 h.s2 h.s1 h.s2
 have hle:=h.le
 exact Aks e3 h (by show gv (Dc [a.1,a.2,a.1,a.2]).1=_;rw [e1];omega) (by show gv (Dc [a.1,a.2,a.1,a.2]).2=_;rw [e2];omega)
theorem Aog (k:p') (h:Hd9 p'→p:=by with_reducible first|(intro Z9;refine Tx 0 ?_;refine gN xBo <| gO xA <| gO xA ?_;exact Z9.o)|(intro Z9;refine Tx 1 ?_;refine gO xL <| gO (xCl func19 (DL)) <| gO xMt <| gO xEx <| gO xEx <| gO xA <| gO xA ?_;exact Z9.o)|(intro Z9;refine Tx 2 ?_;refine gO xM <| gO (xNE Ai) ?_;exact Z9.o)|fail):p:=h ⟨k⟩
theorem AiP (h:p:=by first|exact xIr Aj (hra)|exact xIo (i:=i) Aj):p:=h
theorem AsC (k:p') (h:Hd9 p'→p:=by with_reducible first|(intro Z9;refine Tx 18 ?_;refine gO xM <| gO (by first|exact xIr Af (AG (Ib hi))|exact xIr Af (hra)|exact xIo (i:=i) Af) <| gO xD <| gO xA <| gO xA ?_;exact Z9.o)|(intro Z9;refine Tx 19 ?_;refine gO xM <| gO xM <| gO AiP <| gO xL <| gO (xCl func178 (LG)) ?_;exact Z9.o)|fail):p:=h ⟨k⟩
theorem Aoh (h:p:=by first|exact Aob rfl rfl rfl rfl Ag tl stV|exact xSk Ag):p:=h
theorem AsD (k:p') (h:Hd9 p'→p:=by with_reducible first|(intro Z9;refine Tx 25 ?_;refine gO (by first|exact xIr Af (AG (Ib hj))|exact xIo (i:=j) Af) <| gO xD <| gO xA ?_;exact Z9.o)|(intro Z9;refine AE (id:=26) 11 AN (by kernel_rfl) ?_;dsimp only [List.take,List.drop];refine gP xM <| gP xM <| gP xL <| gP xF <| gP xD <| gP xM <| gP (by first|exact xIr Al (Fb hy)|exact xIo (i:=j) Al) <| gP xL <| gP xM <| gP (xCl func179 BL (ha:=by with_unfolding_all first|((repeat' first|exact BJ rfl rfl|refine AZ rfl rfl ?_ ?_|refine EP rfl rfl ?_|refine CZ rfl rfl ?_|exact Bs rfl (fun h=>by cases h)|exact Afh rfl rfl rfl) <;> fail)|fail)) <| gP (xIo (i:=j) Aj) ?_;refine Ke ?_;refine gZ Aoh ?_;exact Z9.o)|(intro Z9;refine Tx 27 ?_;refine gO xM <| gO xM <| gO (xIo (i:=j) Aj) <| gO (by first|exact Aoa rfl rfl rfl hat Ag|exact xLa Ag) <| gO (xCl func178 (LG)) ?_;exact Z9.o)|fail):p:=h ⟨k⟩
theorem Re (h:p:=by
 exact AH rfl (.cons_ (.tmp (.one (EQ rfl rfl))) (.cons_ (AdK rfl (by decide) rfl) .nil_))):p:=h
theorem Abs (h:p:=by first|exact xNt|exact xNg):p:=h
theorem Wz (t:Bool) {ps:List Prt} {bs:List Bk} {os:List Int} (hl:Fa ps bs os) (qs:List (Rv × Rv)) (hw:∀ q∈qs,RvL q.1∧RvL q.2) (hrl:qs.length≤1000000):CV prog An 85 [aDg t ps bs os,.one (Acd qs)] [AsB (okQ (rgE ps bs os qs) (rgV ps bs (qs.map ivQ))),aE (rgE ps bs os qs)]:=by
 refine cvz func85 ntmps85 ?_
 have DL:=(Hz t hl (ps:=ps) (bs:=bs) (os:=os)).cv
 have OL:=(PP t hl (ps:=ps) (bs:=bs) (os:=os)).cv
 have hnl:=Dr (AI bs)
 have hol:=Dr (Bn bs)
 have hl1:=hl.l1
 have hl2:=hl.l2
 have hl3:=hl.l3
 have hob:=Ul (bs:=bs)
 have hdb:=Mp bs
 by_cases h0:AO ps bs os=0
 case neg =>
  rw [if_neg h0] at DL
  have hE:=rgE1 (qs:=qs) h0
  rw [hE,Gn h0]
  repeat' (with_reducible first|refine qq ?_|refine Aog ?_|(refine Tx 3 ?_;refine gO xM <| gO xA <| gO xA ?_))
  exact AH rfl (.cons_ (.tmp (.one (EQ rfl rfl))) (.cons_ (Aca rfl rfl) .nil_))
 rw [if_pos h0,h0] at DL
 rw [if_pos h0,h0] at OL
 by_cases hL:qs.length=(AI bs).length
 case neg =>
  have hE:=rgE2 (os:=os) h0 hL
  rw [hE,Gn (by decide)]
  repeat' (with_reducible first|refine qq ?_|refine Aog ?_|(refine Tx 4 ?_;refine gO xM <| gO xN <| gO xM <| gO xN <| gO xNe ?_)|(refine Tx 5 ?_;refine gO (xMi underlying109) <| gO xA <| gO xA ?_))
  exact Re
 repeat' (with_reducible first|refine qq ?_|refine Aog ?_|(refine Tx 4 ?_;refine gO xM <| gO xN <| gO xM <| gO xN <| gO xNe ?_)|(refine Tx 6 ?_;refine gO xM <| gO xN <| gO xM ?_))
 refine Bj (BK 1) (Av (fun n Fr H=>∃ k:Nat,k≤qs.length∧n=qs.length - k∧(∀ q∈qs.take k,ivC q=true)∧Fr=ofL [(1,vd (Acd qs)),(2,vr 0),(6,vd (AU false (BZ (AI bs)))),(30,vd (Acd qs)),(31,vi qs.length),(32,vi ((k:Nat)))]∧H=[.box 26 [.d (Di t ps),.d (DK t bs),.d (AU t os)]]) (n0:=qs.length) ⟨0,ad _,rfl,(fun r hr=>by simp at hr),rfl,rfl⟩ ?_)
 rintro n Fr H ⟨k,hk,rfl,hv,rfl,rfl⟩
 by_cases hlt:k<qs.length
 case pos =>
  obtain ⟨q,hq⟩:∃ q,qs[k]?=some q:=⟨_,gE hlt⟩
  have hqm:=hw q (gM hq)
  have VA:CV prog An 122 [.agg (dIr false q)] [aB (ivC q)]:=IY q.1 q.2 hqm.1 hqm.2
  cases hb:ivC q
  case false =>
   rw [hb] at VA
   have hE:=rgE3 (os:=os) h0 hL (Aof hq hb)
   rw [hE,Gn (by decide)]
   repeat' (with_reducible first|refine qq ?_|(refine Tx 7 ?_;refine gO xLt ?_)|(refine Tx 8 ?_;refine gO (xIr Aj (Wx hq)) <| gO xL <| gN (xAl Ap) <| gZ (xSk Ag) ?_)|(refine Tx 9 ?_;refine gO xL <| gO (xCl func122 (VA)) <| gO Abs ?_)|(refine Tx 10 ?_;refine gO (xMi underlying109) <| gO xA <| gO xA ?_))
   exact Re
  case true =>
   rw [hb] at VA
   repeat' (with_reducible first|refine qq ?_|(refine Tx 7 ?_;refine gO xLt ?_)|(refine Tx 8 ?_;refine gO (xIr Aj (Wx hq)) <| gO xL <| gN (xAl Ap) <| gZ (xSk Ag) ?_)|(refine Tx 9 ?_;refine gO xL <| gO (xCl func122 (VA)) <| gO Abs ?_)|(refine Tx 11 ?_;refine gO xAd <| gO xM ?_))
   refine ⟨_,_,BK 1,_,?_,k+1,by omega,rfl,ED hv hq hb,rfl,rfl⟩
   ·omega
 obtain rfl:k=qs.length:=by omega
 rw [au] at hv
 clear hlt hk
 have hva:¬ qs.all ivC=false:=by rw [ia];exact List.all_eq_true.2 hv
 have hE:=rgE4 (os:=os) h0 hL hva
 have hsl:(qs.map ivQ).length=(AI bs).length:=by rw [af];exact hL
 repeat' (with_reducible first|refine qq ?_|(refine Tx 7 ?_;refine gO xLt ?_)|(refine Tx 12 ?_;refine gO xL <| gO (xCl func60 (OL)) <| gO xMt <| gO xEx <| gO xEx <| gO xA <| gO xA ?_)|(refine Tx 13 ?_;refine gO xM <| gO (xNE Ai) ?_)|(refine Tx 15 ?_;refine gO xF <| gO xD <| gO xN <| gN (by first|exact Wt (n:=bs.length) rfl rfl rfl Aj Ap (by omega) (by decide)|exact Br rfl rfl rfl Aj Ap (by omega) (by decide)) <| gO xA ?_)|(refine Tx 16 ?_;refine gO xM <| gO xN <| gO xM ?_))
 refine Bj (BK 2 (h:=by rw [←hnl];exact mB rfl rfl)) (Av (fun n Fr H=>∃ k:Nat,k≤(AI bs).length∧n=(AI bs).length - k∧(∀ p∈(qs.map ivQ).take k,Hk p=false)∧Fr=ofL [(1,vd (Acd qs)),(2,vr 0),(6,vd (AU false (BZ (AI bs)))),(10,vd (AU false (BZ (Bn bs)))),(11,vo 1 bs.length),(53,vd (AU false (BZ (AI bs)))),(54,vi ((AI bs).length)),(55,vi ((k:Nat)))]∧H=[.box 26 [.d (Di t ps),.d (DK t bs),.d (AU t os)],.row 45 6 bs.length (kWs (Abq ((AI bs).take (k)) ((qs.map ivQ).take (k)) (List.replicate bs.length none)))]) (n0:=(AI bs).length) ⟨0,ad _,rfl,(fun r hr=>by simp at hr),rfl,rfl⟩ ?_)
 rintro n Fr H ⟨k,hk,rfl,hnl2,rfl,rfl⟩
 by_cases hlt:k<(AI bs).length
 case pos =>
  obtain ⟨i,hi⟩:∃ i,(AI bs)[k]?=some i:=⟨_,gE hlt⟩
  obtain ⟨q,hq⟩:∃ q,qs[k]?=some q:=⟨_,gE (by omega)⟩
  have hqm:=gM hq
  obtain ⟨sw,hdy,lw1,lw2⟩:=Wy (hw q hqm).1 (hw q hqm).2 (hv q hqm)
  have hst:(qs.map ivQ)[k]?=some (ivQ q):=by rw [ag,hq];rfl
  have hra:=Wx hq
  rw [hdy] at hra
  have hil2:=(GE hi).1
  have LG:=Ww (ivQ q) sw.s1.ok sw.s2.ok lw1 lw2
  by_cases hlg:Hk (ivQ q)=true
  case pos =>
   rw [hlg] at LG
   rw [AiL hst hlg,if_pos rfl] at hE
   rw [hE,Gn (by decide)]
   repeat' (with_reducible first|refine qq ?_|(refine Tx 17 ?_;refine gO xLt ?_)|refine AsC ?_|(refine Tx 20 ?_;refine gO (xMi underlying109) <| gO xA <| gO xA ?_))
   exact Re
  rw [bc] at hlg
  rw [hlg] at LG
  have sb:=(Ta sw hlg)
  have sb2:=sb.more LBx LBx
  have HU:=QZ (ivQ q) (ivQ q) sb2 sb2
  rw [Afl sb] at HU
  have tl:i<(Abq ((AI bs).take (k)) ((qs.map ivQ).take (k)) (List.replicate bs.length none)).length:=by rw [PR,dt];exact hil2
  have stV:(Abq ((AI bs).take (k)) ((qs.map ivQ).take (k)) (List.replicate bs.length none)).set i (some (ivQ q))=(Abq ((AI bs).take (k+1)) ((qs.map ivQ).take (k+1)) (List.replicate bs.length none)):=(Wu _ hi hst).symm
  repeat' (with_reducible first|refine qq ?_|(refine Tx 17 ?_;refine gO xLt ?_)|refine AsC ?_|(refine AE (id:=21) 12 AN (by kernel_rfl) ?_;dsimp only [List.take,List.drop];refine gP xM <| gP xM <| gP xM <| gP xM <| gP AiP <| gP xL <| gP xM <| gP xM <| gP AiP <| gP xL <| gP (xCl func142 (HU)) <| gP AiP ?_;refine Ke ?_;refine gZ Aoh ?_)|(refine Tx 22 ?_;refine gO xAd <| gO xM ?_))
  refine ⟨_,_,BK 2,_,by omega,k+1,by omega,rfl,ED hnl2 hst hlg,rfl,rfl⟩
 obtain rfl:k=(AI bs).length:=by omega
 clear hlt hk
 rw [ar (by omega)] at hnl2
 have HD:=ZR (bs:=bs) (st:=(qs.map ivQ)) (fun p hp=>by obtain ⟨q,hq,rfl⟩:=List.mem_map.1 hp;exact Ta (Wy (hw q hq).1 (hw q hq).2 (hv q hq)).1 (hnl2 _ hp)) hsl
 rw [←Aod ps bs (qs.map ivQ)] at HD
 rw [au,ar (l:=(qs.map ivQ)) (by omega),←Aod ps bs (qs.map ivQ)]
 repeat' (with_reducible first|refine qq ?_|(refine Tx 17 ?_;refine gO xLt ?_)|(refine Tx 23 ?_;refine gO xM <| gO xN <| gO xM ?_))
 refine Bj (BK 2 (h:=by rw [←hol];exact mB rfl rfl)) (Av (fun n Fr H=>∃ k:Nat,k≤(Bn bs).length∧n=(Bn bs).length - k∧Afj (rgS ps bs (qs.map ivQ) (k)) (Wd bs k)∧(∀ s,s<k→Hk (rgN ps bs (qs.map ivQ) s)=false)∧Fr=ofL [(1,vd (Acd qs)),(2,vr 0),(6,vd (AU false (BZ (AI bs)))),(10,vd (AU false (BZ (Bn bs)))),(11,vo 1 bs.length),(79,vd (AU false (BZ (Bn bs)))),(80,vi ((Bn bs).length)),(81,vi ((k:Nat)))]∧H=[.box 26 [.d (Di t ps),.d (DK t bs),.d (AU t os)],.row 45 6 bs.length (kWs (rgS ps bs (qs.map ivQ) (k)))]) (n0:=(Bn bs).length) ⟨0,ad _,rfl,HD,(fun s hs=>absurd hs (fb s)),rfl,rfl⟩ ?_)
 rintro n Fr H ⟨k,hk,rfl,HK,hgd,rfl,rfl⟩
 by_cases hlt:k<(Bn bs).length
 case pos =>
  obtain ⟨j,hj⟩:∃ j,(Bn bs)[k]?=some j:=⟨_,gE hlt⟩
  obtain ⟨y,hy,hk2,T⟩:=ZS h0 hj HK
  have hjl:=(Ia hj).1
  have hvn:rgN ps bs (qs.map ivQ) k=BH y (Oz (rgS ps bs (qs.map ivQ) (k)) y) ps:=by unfold rgN tkW;rw [hj];simp only [bd];rw [hy]
  have hgl:(gW (rgS ps bs (qs.map ivQ) (k))).length=bs.length:=by rw [Afg,Rc]
  have BL:=Abr t ps bs os y (gW (rgS ps bs (qs.map ivQ) (k))) (Oz (rgS ps bs (qs.map ivQ) (k)) y) T.hk (by have:=T.len;omega) (by omega) (by omega) T.hl (fun p hp=>(T.hs p hp).more (by decide) (by decide)) T.hin T.hsv T.hsu T.hcl
  have TS:=T.sm
  rw [←hvn] at BL TS
  rw [hgl] at BL
  have LG:=Ww (rgN ps bs (qs.map ivQ) k) TS.s1.ok TS.s2.ok TS.s1.lz TS.s2.lz
  have tl:j<(rgS ps bs (qs.map ivQ) (k)).length:=by rw [Rc];exact hjl
  have stV:(rgS ps bs (qs.map ivQ) (k)).set j (some (rgN ps bs (qs.map ivQ) k))=(rgS ps bs (qs.map ivQ) (k+1)):=(ZQ hj).symm
  have hbad:=AiM (ps:=ps) (st:=(qs.map ivQ)) hlt
  have hnx:=Wv HK hj
  have hat:(rgS ps bs (qs.map ivQ) (k+1))[j]?=some (some (rgN ps bs (qs.map ivQ) k)):=by rw [←stV,bk,if_pos rfl,if_pos tl]
  by_cases hlg:Hk (rgN ps bs (qs.map ivQ) k)=true
  case pos =>
   rw [hlg] at LG
   rw [hbad hlg,if_pos rfl] at hE
   rw [hE,Gn (by decide)]
   repeat' (with_reducible first|refine qq ?_|(refine Tx 24 ?_;refine gO xLt ?_)|refine AsD ?_|(refine Tx 28 ?_;refine gO (xMi underlying109) <| gO xA <| gO xA ?_))
   exact Re
  rw [bc] at hlg
  rw [hlg] at LG
  repeat' (with_reducible first|refine qq ?_|(refine Tx 24 ?_;refine gO xLt ?_)|refine AsD ?_|(refine Tx 29 ?_;refine gO xAd <| gO xM ?_))
  refine ⟨_,_,BK 2,_,by omega,k+1,by omega,rfl,hnx (Ta TS hlg),Up hgd hlg,rfl,rfl⟩
 obtain rfl:k=(Bn bs).length:=by omega
 clear hlt hk
 rw [AiN hnl2 hgd,if_neg (by decide)] at hE
 rw [hE,RP rfl]
 have hvE:(rgV ps bs (qs.map ivQ)).length=bs.length:=by unfold rgV;rw [Afg,Rc]
 unfold AsB
 rw [hvE]
 repeat' (with_reducible first|refine qq ?_|(refine Tx 24 ?_;refine gO xLt ?_)|(refine Tx 30 ?_;refine gO xM <| gO xA <| gO xA ?_))
 exact AH rfl (.cons_ (.tmp (.one (Afh rfl rfl rfl))) (.cons_ (Gk rfl rfl) .nil_))
section
variable {ps:List Prt} {bs:List Bk} {os:List Int} {qs:List (Rv × Rv)} {st:List Iq}
theorem Afm (h:Eg ps bs st=false):(∀ p∈st,Hk p=false)∧∀ t,t<(Bn bs).length→Hk (rgN ps bs st t)=false:=by
 unfold Eg at h
 rw [iu] at h
 exact ⟨fun p hp=>by have:=List.any_eq_false.1 h.1 p hp;rwa [bc] at this,fun t ht=>by have:=List.any_eq_false.1 h.2 t (List.mem_range.2 ht);rwa [bc] at this⟩
theorem AsE (hj:(Bn bs)[t]?=some j) (hy:bs[j]?=some y):rgN ps bs st t=BH y (Oz (rgS ps bs st t) y) ps:=by
 unfold rgN tkW
 rw [hj]
 simp only [bd]
 rw [hy]
theorem Aoi (he:AO ps bs os=0) (hst:∀ p∈st,IwS p LB LB) (hl:st.length=(AI bs).length) (hb:Eg ps bs st=false):∀ t,t≤(Bn bs).length→Afj (rgS ps bs st t) (Wd bs t):=fun t=>by
 induction t with
 | zero=>intro _;rw [Aod];exact ZR hst hl
 | succ t ih =>
  intro ht
  obtain ⟨j,hj⟩:∃ j,(Bn bs)[t]?=some j:=⟨_,gE ht⟩
  have h:=ih (by omega)
  obtain ⟨y,hy,_,T⟩:=ZS he hj h
  have TS:=T.sm
  rw [←AsE hj hy] at TS
  exact Wv h hj (Ta TS ((Afm hb).2 t ht))
theorem Afn (he:AO ps bs os=0) (hst:∀ p∈st,IwS p LB LB) (hl:st.length=(AI bs).length) (hb:Eg ps bs st=false) {i:Nat} (hi:i<bs.length):∃ p,(rgV ps bs st)[i]?=some p∧(rgS ps bs st (Bn bs).length)[i]?=some (some p)∧IwS p LB LB:=by
 obtain ⟨p,hp,hs⟩:=AiO he (Aoi he hst hl hb _ (aa _)) hi
 exact ⟨p,Asx hp,hp,hs⟩
theorem Rf:(rgV ps bs st).length=bs.length:=by unfold rgV;rw [Afg,Rc]
end
def clOk (ps:List Prt) (bs:List Bk) (st:List Iq) (k:Nat):Bool :=
 iIn ((CN bs)[k]?.getD (0,0),(CN bs)[k]?.getD (0,0)) (st[k]?.getD iZ) && iIn ((rgV ps bs st)[Aiv bs ((AI bs)[k]?.getD 0)]?.getD iZ) (st[k]?.getD iZ)
def Abt (ps:List Prt) (bs:List Bk) (st:List Iq):Bool:=(List.range (AI bs).length).all (clOk ps bs st)
theorem AiQ {st:List Iq} (h:∀ k,k<(AI bs).length→clOk ps bs st k=true):Abt ps bs st=true:=List.all_eq_true.2 fun k hk=>h k (List.mem_range.1 hk)
abbrev pw (k:Int):Pq:=Ac 1 0 k
theorem Yh {k:Int} (h0 : -(n:Int)≤k) (h1:k≤n) (hn:n≤65536):Sm (pw k) (n+1) n:=by
 unfold pw Ac
 split
 ·exact (Sm.mk_nf (m:=1) (n:=n+1) (d:=n) (p:=0+(-(max (-65536) (min k 65536))).toNat) (by omega) (by omega) (Nat.one_lt_two_pow (by omega)))
 ·refine (Sm.mk_nf (n:=n+1) (d:=n) (p:=0) (by omega) (by omega) ?_)
  rw [jb,fu]
  exact Nat.pow_lt_pow_right (by decide) (by omega)
theorem Pv {k:Int} (h0 : -65536≤k) (h1:k≤65536):gv (pw k)=2 ^ (65536+k).toNat:=by
 by_cases hk:0≤k
 ·have:=Ie (p:=(1,0)) (n:=k.toNat) (ad _) (by omega)
  rw [show ((k.toNat:Nat):Int)=k by omega,LJ,jb,←al] at this
  rw [show gv (pw k)=_ from this]
  congr 1
  show 65536+k.toNat=_
  omega
 ·have:=Ns (p:=(1,0)) (n:=(-k).toNat) (by show 0+(-k).toNat≤65536;omega) (by omega)
  rw [show (-(((-k).toNat:Nat):Int))=k by omega,LJ,jb] at this
  refine ew (fy (Bg (-k).toNat)) ?_
  rw [this,←al]
  congr 1
  show 65536=_
  omega
def upK (x:Pq):Int:=(Bu x.1.natAbs:Int) - 1 - x.2
def upP (x:Pq):Pq:=if x.1=0 then x else if x.1<0 then (if upK x < -30 then (0,0) else GF (pw (upK x))) else pw (max (if Nt (pw (upK x)) x<0 then upK x+1 else upK x) (-30))
theorem Tb (h:p:=by
 exact AH rfl (.cons_ (rvW Ad rfl) .nil_)):p:=h
theorem Qa (k:Int) (h0 : -65536≤k) (h1:k≤65536):CV prog An 233 [aI k] [aDy false (pw k).1 (pw k).2]:=by
 refine cvz func233 ntmps233 ?_
 have OF:=Ft 1 (by decide) (by decide)
 have SH:=BE 1 0 k ⟨by decide,fun h=>absurd rfl h⟩ (lT (AJ (k:=2) (by decide)) (by decide)) (by omega)
 repeat' (with_reducible first|refine qq ?_|(refine Tx 0 ?_;refine gN (xAl Ao) ?_)|(refine Tx 1 ?_;refine gO (xCl func68 (OF)) <| gO xM <| gO (xCl func21 (SH)) <| gZ (xSk Ad) ?_))
 exact Tb
def RX (a:Iq):Bool:=decide (0<Nt (DA a) (pw 40))
theorem ZT (a:Iq) (h:IwS a 20000 20000):CV prog An 174 [aIw false a] [aB (RX a)]:=by
 refine cvz func174 ntmps174 ?_
 have MG:=NC a h
 have hm:=h.abs.s2
 have PW:=Qa 40 (by decide) (by decide)
 have hp:=Yh (k:=40) (n:=40) (by decide) (by decide) (by decide)
 have CM:=(Cv (DA a).1 (DA a).2 (pw 40).1 (pw 40).2 hm.ok hp.ok hm.lz hp.lz)
 have hf:decide (0<Nt (DA a) (pw 40))=RX a:=rfl
 repeat' (with_reducible first|refine qq ?_|(refine Tx 0 ?_;refine gN xBo <| gO xA ?_)|(refine Tx 1 ?_;refine gO xL <| gO (xCl func159 (MG)) <| gO (xCl func233 (PW)) <| gO (xCl func15 (CM)) <| gO (by first|exact TN rfl rfl rfl hf|exact xGt) <| gO xA ?_))
 exact AH rfl (.cons_ (Fi rfl rfl) .nil_)
def P2 (j:Nat):Int:=2 ^ (65506+j)
theorem AsF (h:P2 i≤P2 j):i≤j:=Nat.not_lt.1 fun hc=>by
 unfold P2 at h
 rw [show 65506+i=(65506+j)+((i - j - 1)+1) by omega,al,Int.pow_succ] at h
 have q1:=Bg (65506+j)
 have q2:=Bg (i - j - 1)
 have:=js (show (2:Int)≤2 ^ (i - j - 1)*2 by omega) (ay q1)
 omega
def inU (z:Int):Prop:=z=0∨∃ j:Nat,z=P2 j∨z = -P2 j
theorem Aoj {x:Pq} (h0:x.1≠0):1≤Bu x.1.natAbs∧2 ^ (Bu x.1.natAbs - 1)≤x.1.natAbs∧x.1.natAbs<2 ^ Bu x.1.natAbs:=by
 have h1:1≤Bu x.1.natAbs:=Nat.one_le_iff_ne_zero.2 fun hc=>by
  have:Bu x.1.natAbs≤0:=by omega
  have:=DD.1 this
  omega
 refine ⟨h1,Nat.not_lt.1 fun hc=>?_,DD.1 (aa _)⟩
 have:=DD.2 hc
 omega
theorem Avm {x:Pq} (h:Sm x n n) (hn:n≤65000) (h30:30≤n):Sm (upP x) (n+2) (n+1)∧gv x≤gv (upP x)∧inU (gv (upP x)):=by
 by_cases h0:x.1=0
 ·exact ⟨by unfold upP;rw [if_pos h0];exact h.more (by omega) (by omega),by unfold upP;rw [if_pos h0];exact ck _,by unfold upP gv;rw [if_pos h0,h0,Int.zero_mul];exact .inl rfl⟩
 ·obtain ⟨b1,b2,b3⟩:=Aoj h0
  have bn:Bu x.1.natAbs≤n:=DD.2 h.n
  have hd:=h.d
  have hk:upK x=(Bu x.1.natAbs:Int) - 1 - x.2:=rfl
  have ex:gv x=x.1*2 ^ (GQ - x.2):=rfl
  have hG:GQ=65536:=rfl
  have pk:gv (pw (upK x))=2 ^ (Bu x.1.natAbs - 1)*2 ^ (GQ - x.2):=by rw [Pv (by omega) (by omega),←al];congr 1;omega
  have pk1:gv (pw (upK x+1))=2 ^ Bu x.1.natAbs*2 ^ (GQ - x.2):=by rw [Pv (by omega) (by omega),←al];congr 1;omega
  have grid:∀ k:Int,-30≤k→k≤65536→gv (pw k)=P2 (k+30).toNat:=fun k k0 k1=>by rw [Pv (by omega) k1];unfold P2;congr 1;omega
  have p0:=Bg (GQ - x.2)
  have c2:((2 ^ (Bu x.1.natAbs - 1):Nat):Int)=2 ^ (Bu x.1.natAbs - 1):=Int.natCast_pow ..
  have c3:((2 ^ Bu x.1.natAbs:Nat):Int)=2 ^ Bu x.1.natAbs:=Int.natCast_pow ..
  unfold upP
  rw [if_neg h0]
  by_cases h1:x.1<0
  ·rw [if_pos h1]
   by_cases h2:upK x < -30
   ·rw [if_pos h2]
    refine ⟨Sm.zero _ _,?_,by rw [Ic];exact .inl rfl⟩
    rw [Ic,ex]
    exact Int.mul_nonpos_of_nonpos_of_nonneg (ay h1) (ay p0)
   ·rw [if_neg h2]
    refine ⟨((Yh (n:=n) (by omega) (by omega) (by omega)).neg).more (by omega) (by omega),?_,?_⟩
    ·rw [EE,pk,ex,←cz]
     exact ci (by omega) (ay p0)
    ·rw [EE,grid _ (by omega) (by omega)];exact .inr ⟨_,.inr rfl⟩
  ·rw [if_neg h1]
   have key:∀ k':Int,gv x≤gv (pw k')→k'≤n → -65536≤k'→Sm (pw (max k' (-30))) (n+2) (n+1)∧gv x≤gv (pw (max k' (-30)))∧inU (gv (pw (max k' (-30)))):=fun k' hk' hn' hl'=>by
    refine ⟨(Yh (n:=n) (by omega) (by omega) (by omega)).more (by omega) (by omega),Int.le_trans hk' ?_,.inr ⟨_,.inl (grid _ (by omega) (by omega))⟩⟩
    rw [Pv hl' (by omega),Pv (by omega) (by omega)]
    have hle:(65536+k').toNat≤(65536+max k' (-30)).toNat:=by omega
    rw [show (65536+max k' (-30)).toNat=(65536+k').toNat+((65536+max k' (-30)).toNat - (65536+k').toNat) by omega,al]
    have q1:=Bg (65536+k').toNat
    have q2:=Bg ((65536+max k' (-30)).toNat - (65536+k').toNat)
    have:=js (show (1:Int)≤2 ^ ((65536+max k' (-30)).toNat - (65536+k').toNat) by omega) (ay q1)
    rwa [iy] at this
   have sk:=Yh (k:=upK x) (n:=n) (by omega) (by omega) (by omega)
   by_cases h3:Nt (pw (upK x)) x<0
   ·rw [if_pos h3]
    refine key _ ?_ (by omega) (by omega)
    rw [pk1,ex]
    exact ci (by omega) (ay p0)
   ·rw [if_neg h3]
    exact key _ ((Wf sk.le h.le).1 (Int.not_lt.1 h3)) (by omega) (by omega)
theorem Afo (k:p') (h:Hd9 p'→p:=by with_reducible first|(intro Z9;refine qq ?_;exact Z9.o)|(intro Z9;refine Tx 0 ?_;refine gN xBo <| gN (xAl Ao) ?_;exact Z9.o)|(intro Z9;refine Tx 1 ?_;refine gO xL <| gO (xCl func55 (SG)) <| gO xEq ?_;exact Z9.o)|fail):p:=h ⟨k⟩
theorem AiR (k:p') (h:Hd9 p'→p:=by with_reducible first|(intro Z9;refine BU (id:=3) AN (by kernel_rfl) ?_;refine gP xL <| gP (xCl func212 (BT)) <| gP xSb <| gP xF <| gP xD <| gP xSb <| gP xA ?_;refine Ke ?_;exact Z9.o)|(intro Z9;refine Tx 4 ?_;refine gO xL <| gO (xCl func55 (SG)) <| gO xLt ?_;exact Z9.o)|fail):p:=h ⟨k⟩
theorem AsG (k:p') (h:Hd9 p'→p:=by with_reducible first|(intro Z9;refine BU (id:=8) AN (by kernel_rfl) ?_;refine gP xM <| gP (xCl func233 (PW)) <| gP xL <| gP (xCl func15 (CM)) <| gP xLt ?_;refine Ke ?_;exact Z9.o)|(intro Z9;refine Tx 10 ?_;refine gO xM <| gO (by exact Gf rfl rfl rfl) <| gO (by first|exact xCl func233 (PM)|exact xCl func233 (PW)) <| gZ (xSk Ad) ?_;exact Z9.o)|fail):p:=h ⟨k⟩
theorem Afp (x:Pq) (h:Sm x 20000 20000):CV prog An 177 [aDy false x.1 x.2] [aDy false (upP x).1 (upP x).2]:=by
 refine cvz func177 ntmps177 ?_
 have hd:=h.d
 have hbn:Bu x.1.natAbs≤20000:=DD.2 h.n
 have hl:(Ae x.1.natAbs).length≤40000:=lT (h.lenN 625 (by decide)) (by decide)
 have SG:=Nx x.1 x.2 h.ok hl
 have BT:=IR x.1 x.2 h.ok hl
 have PW:=Qa (((Bu x.1.natAbs:Nat):Int) - 1 - (x.2:Int)) (by omega) (by omega)
 have sp:=Yh (k:=((Bu x.1.natAbs:Nat):Int) - 1 - (x.2:Int)) (n:=20001) (by omega) (by omega) (by decide)
 have lp:=lT (sp.lenN 626 (by decide)) (show 626≤40000 by decide)
 by_cases h0:x.1=0
 case pos =>
  rw [show upP x=x from if_pos h0]
  rw [show sgI x.1=0 by unfold sgI;(repeat' split) <;> omega] at SG
  repeat' (with_reducible first|refine Afo ?_|(refine Tx 2 ?_;refine gO xL <| gZ (xSk Ad) ?_))
  exact Tb
 have hk:upK x=((Bu x.1.natAbs:Nat):Int) - 1 - (x.2:Int):=rfl
 by_cases h1:x.1<0
 case pos =>
  rw [show sgI x.1 = -1 by unfold sgI;(repeat' split) <;> omega] at SG
  by_cases h2:((Bu x.1.natAbs:Nat):Int) - 1 - (x.2:Int) < -30
  case pos =>
   rw [show upP x=(0,0) by unfold upP;rw [if_neg h0,if_pos h1,if_pos (by omega)],Ml]
   repeat' (with_reducible first|refine Afo ?_|refine AiR ?_|(refine Tx 5 ?_;refine gO xM <| gO xLt ?_)|(refine Tx 6 ?_;refine gO (by exact Az rfl MT rfl rfl) <| gZ (xSk Ad) ?_))
   exact AH rfl (.cons_ (Avi Ad rfl) .nil_)
  rw [show upP x=GF (pw (((Bu x.1.natAbs:Nat):Int) - 1 - (x.2:Int))) by unfold upP;rw [if_neg h0,if_pos h1,if_neg (by omega),hk]]
  have NG:=Fc (pw (((Bu x.1.natAbs:Nat):Int) - 1 - (x.2:Int))).1 (pw (((Bu x.1.natAbs:Nat):Int) - 1 - (x.2:Int))).2 sp.ok lp
  repeat' (with_reducible first|refine Afo ?_|refine AiR ?_|(refine Tx 5 ?_;refine gO xM <| gO xLt ?_)|(refine Tx 7 ?_;refine gO xM <| gO (xCl func233 (PW)) <| gO (xCl func176 (NG)) <| gZ (xSk Ad) ?_))
  exact Tb
 rw [show sgI x.1=1 by unfold sgI;(repeat' split) <;> omega] at SG
 have CM:=Cv (pw (((Bu x.1.natAbs:Nat):Int) - 1 - (x.2:Int))).1 (pw (((Bu x.1.natAbs:Nat):Int) - 1 - (x.2:Int))).2 x.1 x.2 sp.ok h.ok lp hl
 by_cases h3:BM (pw (((Bu x.1.natAbs:Nat):Int) - 1 - (x.2:Int))).1 (pw (((Bu x.1.natAbs:Nat):Int) - 1 - (x.2:Int))).2 x.1 x.2<0
 case pos =>
  have PM:=Qa (max (((Bu x.1.natAbs:Nat):Int) - 1 - (x.2:Int)+1) (-30)) (by omega) (by omega)
  rw [show upP x=pw (max (((Bu x.1.natAbs:Nat):Int) - 1 - (x.2:Int)+1) (-30)) by unfold upP;rw [if_neg h0,if_neg h1,hk,if_pos h3]]
  repeat' (with_reducible first|refine Afo ?_|refine AiR ?_|refine AsG ?_|(refine Tx 9 ?_;refine gO xM <| gO xAd <| gO xA ?_))
  exact Tb
 case neg =>
  have PM:=Qa (max (((Bu x.1.natAbs:Nat):Int) - 1 - (x.2:Int)) (-30)) (by omega) (by omega)
  rw [show upP x=pw (max (((Bu x.1.natAbs:Nat):Int) - 1 - (x.2:Int)) (-30)) by unfold upP;rw [if_neg h0,if_neg h1,hk,if_neg h3]]
  repeat' (with_reducible first|refine Afo ?_|refine AiR ?_|refine AsG ?_)
  exact Tb
def UL:List Int:=0::((List.range 71).map P2++(List.range 71).map fun j => -P2 j)
def phi (z:Int):Nat:=UL.countP fun m=>decide (m<z)
def psi (z:Int):Nat:=UL.countP fun m=>decide (z<m)
theorem Akv:UL.length=143:=by unfold UL;rw [bi,ak,af,af,fz]
theorem AsH (z:Int):phi z≤143:=by have:=List.countP_le_length (p:=fun m=>decide (m<z)) (l:=UL);rw [Akv] at this;exact this
theorem AsI (z:Int):psi z≤143:=by have:=List.countP_le_length (p:=fun m=>decide (z<m)) (l:=UL);rw [Akv] at this;exact this
theorem UD {α:Type} {p q:α→Bool} {m:α} (h:∀ x,p x=true→q x=true) (h1:p m=false) (h2:q m=true):∀ {l:List α},m∈l→l.countP p<l.countP q
 | [],hm=>by cases hm
 | x::l,hm=>by
  have hle:l.countP p≤l.countP q:=List.countP_mono_left fun y _ hy=>h y hy
  rw [List.countP_cons,List.countP_cons]
  rcases List.mem_cons.1 hm with rfl|hm
  ·rw [h1,h2];simp;omega
  ·have ih:=UD h h1 h2 hm
   cases hp:p x with
   | true=>rw [h x hp];omega
   | false=>simp;cases q x <;> simp <;> omega
theorem Afq {z:Int} (h:inU z) (h1 : -P2 70≤z) (h2:z≤P2 70):z∈UL:=by
 unfold UL
 rcases h with rfl|⟨j,rfl|rfl⟩
 ·exact fd ..
 ·have:=AsF h2
  exact ek _ (mr _ (mo (List.mem_range.2 (by omega))))
 ·have:=AsF (i:=j) (j:=70) (by omega)
  exact ek _ (List.mem_append_right _ (mo (f:=fun j => -P2 j) (List.mem_range.2 (by omega))))
theorem AsJ {z z':Int} (hm:z'∈UL) (h:z'<z):phi z'<phi z:=UD (p:=fun m=>decide (m<z')) (q:=fun m=>decide (m<z)) (m:=z') (fun x hx=>decide_eq_true (by have:=of_decide_eq_true hx;omega)) (decide_eq_false (by omega)) (decide_eq_true h) hm
theorem AsK {z z':Int} (hm:z'∈UL) (h:z<z'):psi z'<psi z:=UD (p:=fun m=>decide (z'<m)) (q:=fun m=>decide (z<m)) (m:=z') (fun x hx=>decide_eq_true (by have:=of_decide_eq_true hx;omega)) (decide_eq_false (by omega)) (decide_eq_true h) hm
theorem AsL {d:Nat} (h:IwS a n d) (hf:RX a=false) : -P2 70≤gv a.1∧gv a.1≤P2 70 ∧ -P2 70≤gv a.2∧gv a.2≤P2 70:=by
 have hp:=Yh (k:=40) (n:=40) (by decide) (by decide) (by decide)
 have h1:=of_decide_eq_false hf
 have h2:=(LI (p:=DA a) (q:=pw 40) h.abs.s2.le hp.le).1 (Int.not_lt.1 h1)
 rw [Pv (by decide) (by decide),show gv (DA a)=_ from (Ij h).2] at h2
 have e:(2:Int) ^ (65536+(40:Int)).toNat=P2 70:=by unfold P2;congr 1
 rw [e] at h2
 omega
theorem UE {p:Pq} {d den:Nat} (h:Sm p n d) (hd:den≤65536):Sm (SW p den) n den:=by
 unfold SW Cl
 split
 ·exact ⟨h.ok,h.n,by assumption⟩
 ·exact Sm.mk_nf (aa _) hd (ii Wn h.n)
theorem AiS {d den:Nat} (h:IwS a n d) (hd:den≤65536):IwS (Ih a den) n den∧gv (Ih a den).1≤gv a.1∧gv a.2≤gv (Ih a den).2:=by
 have f1:=Ur (p:=a.1) (den:=den) h.s1.le hd
 have f2:=Ur (p:=GF a.2) (den:=den) h.s2.neg.le hd
 rw [EE] at f2
 have g1:gv (Ih a den).1≤gv a.1:=f1.1
 have g2:gv a.2≤gv (Ih a den).2:=by
  show _≤gv (GF (SW (GF a.2) den))
  rw [EE]
  have f3:gv (SW (GF a.2) den) ≤ -gv a.2:=f2.1
  omega
 exact ⟨⟨UE h.s1 hd,(UE h.s2.neg hd).neg,by have:=h.le;omega⟩,g1,g2⟩
def Fd (inv r:Iq):Iq:=Ih (Lo inv r) 64
def loC (inv r:Iq):Bool:=decide (¬ (Fd inv r).1=inv.1)
def hiC (inv r:Iq):Bool:=decide (¬ (Fd inv r).2=inv.2)
def En (w:Bool) (inv r:Iq):Iq:=(if (w && loC inv r)=true then GF (upP (GF (Fd inv r).1)) else (Fd inv r).1,if (w && hiC inv r)=true then upP (Fd inv r).2 else (Fd inv r).2)
theorem Afr {b:Iq} {d:Nat} (h:IwS a n d) (k:IwS b n d):gv (Lo a b).1=min (gv a.1) (gv b.1)∧gv (Lo a b).2=max (gv a.2) (gv b.2):=by
 obtain ⟨e1,e2,e3⟩:=Em h.s1 h.s2 k.s1 k.s2
 have h1:=h.le
 have h2:=k.le
 exact ⟨by show gv (Dc [a.1,a.2,b.1,b.2]).1=_;rw [e1];omega,by show gv (Dc [a.1,a.2,b.1,b.2]).2=_;rw [e2];omega⟩
theorem Afs (h:IwS a LB LB) (k:IwS r LB LB):IwS (Fd a r) LB 64∧gv (Fd a r).1≤gv a.1∧gv (Fd a r).1≤gv r.1∧gv a.2≤gv (Fd a r).2∧gv r.2≤gv (Fd a r).2:=by
 obtain ⟨e1,e2⟩:=Afr h k
 obtain ⟨s,r1,r2⟩:=AiS (h.hull k) (den:=64) (by decide)
 exact ⟨s,by show gv (Ih (Lo a r) 64).1≤_;omega,by show gv (Ih (Lo a r) 64).1≤_;omega,by show _≤gv (Ih (Lo a r) 64).2;omega,by show _≤gv (Ih (Lo a r) 64).2;omega⟩
theorem Yi {p:Pq} (h:Sm p LB 64):Sm (upP p) 20000 20000∧gv p≤gv (upP p)∧inU (gv (upP p)):=by
 obtain ⟨h1,h2,h3⟩:=Avm (h.more (aa LB) (show 64≤LB by decide)) (by decide) (by decide)
 exact ⟨h1.more (by decide) (by decide),h2,h3⟩
theorem Yj (h:IwS a LB LB) (k:IwS r LB LB):IwS (En w a r) 20000 20000∧gv (En w a r).1≤gv a.1∧gv a.2≤gv (En w a r).2 ∧
  (w=true→((loC a r=false∧(En w a r).1=a.1)∨(gv (En w a r).1<gv a.1∧inU (gv (En w a r).1)))∧((hiC a r=false∧(En w a r).2=a.2)∨(gv a.2<gv (En w a r).2∧inU (gv (En w a r).2)))):=by
 obtain ⟨s,r1,r2,r3,r4⟩:=Afs h k
 have hh:=h.le
 obtain ⟨u1,u2,u3⟩:Sm (upP (GF (Fd a r).1)) 20000 20000∧gv (GF (Fd a r).1)≤gv (upP (GF (Fd a r).1))∧inU (gv (upP (GF (Fd a r).1))):=Yi s.s1.neg
 obtain ⟨v1,v2,v3⟩:=Yi s.s2
 rw [show gv (GF (Fd a r).1) = -gv (Fd a r).1 from EE _] at u2
 have q1:Sm (En w a r).1 20000 20000∧gv (En w a r).1≤gv a.1∧(w=true→((loC a r=false∧(En w a r).1=a.1)∨(gv (En w a r).1<gv a.1∧inU (gv (En w a r).1)))):=by
  show Sm (if (w && loC a r)=true then _ else _) _ _∧gv (if (w && loC a r)=true then _ else _)≤_∧(w=true→((_∧(if (w && loC a r)=true then _ else _)=_)∨(gv (if (w && loC a r)=true then _ else _)<_∧inU (gv (if (w && loC a r)=true then _ else _)))))
  by_cases hc:(w && loC a r)=true
  ·rw [if_pos hc]
   rw [aj] at hc
   have hne:¬ (Fd a r).1=a.1:=of_decide_eq_true hc.2
   have hlt:gv (Fd a r).1<gv a.1:=Int.lt_iff_le_and_ne.2 ⟨r1,fun e=>hne (SR s.s1.ok h.s1.ok e)⟩
   rw [EE]
   refine ⟨u1.neg,by omega,fun _=>.inr ⟨by omega,?_⟩⟩
   rcases u3 with e|⟨j,e|e⟩
   ·exact .inl (by omega)
   ·exact .inr ⟨j,.inr (by omega)⟩
   ·exact .inr ⟨j,.inl (by omega)⟩
  ·rw [if_neg hc]
   refine ⟨s.s1.more (by decide) (by decide),r1,fun hw=>.inl ?_⟩
   rw [hw,ga,bc] at hc
   exact ⟨hc,bw fun hn=>by rw [show loC a r=true from decide_eq_true hn] at hc;cases hc⟩
 have q2:Sm (En w a r).2 20000 20000∧gv a.2≤gv (En w a r).2∧(w=true→((hiC a r=false∧(En w a r).2=a.2)∨(gv a.2<gv (En w a r).2∧inU (gv (En w a r).2)))):=by
  show Sm (if (w && hiC a r)=true then _ else _) _ _∧_≤gv (if (w && hiC a r)=true then _ else _)∧(w=true→((_∧(if (w && hiC a r)=true then _ else _)=_)∨(_<gv (if (w && hiC a r)=true then _ else _)∧inU (gv (if (w && hiC a r)=true then _ else _)))))
  by_cases hc:(w && hiC a r)=true
  ·rw [if_pos hc]
   rw [aj] at hc
   have hne:¬ (Fd a r).2=a.2:=of_decide_eq_true hc.2
   have hlt:gv a.2<gv (Fd a r).2:=Int.lt_iff_le_and_ne.2 ⟨r3,fun e=>hne (SR h.s2.ok s.s2.ok e).symm⟩
   exact ⟨v1,by omega,fun _=>.inr ⟨by omega,v3⟩⟩
  ·rw [if_neg hc]
   refine ⟨s.s2.more (by decide) (by decide),r3,fun hw=>.inl ?_⟩
   rw [hw,ga,bc] at hc
   exact ⟨hc,bw fun hn=>by rw [show hiC a r=true from decide_eq_true hn] at hc;cases hc⟩
 exact ⟨⟨q1.1,q2.1,by have:=q1.2.1;have:=q2.2.1;omega⟩,q1.2.1,q2.2.1,fun hw=>⟨q1.2.2 hw,q2.2.2 hw⟩⟩
def rgA (ps:List Prt) (bs:List Bk) (l:List Iq) (k:Nat):Iq:=(rgV ps bs l)[Aiv bs ((AI bs)[k]?.getD 0)]?.getD iZ
def nxI (ps:List Prt) (bs:List Bk) (w:Bool) (l:List Iq) (k:Nat):Iq:=En w (l[k]?.getD iZ) (rgA ps bs l k)
def Dj (ps:List Prt) (bs:List Bk) (w:Bool) (l:List Iq):List Iq:=(List.range (AI bs).length).map (nxI ps bs w l)
def Aul (ps:List Prt) (bs:List Bk) (l:List Iq) (k:Nat):Bool:=loC (l[k]?.getD iZ) (rgA ps bs l k) || hiC (l[k]?.getD iZ) (rgA ps bs l k)
def ZU (ps:List Prt) (bs:List Bk) (l:List Iq) (k:Nat):Bool:=(List.range k).any (Aul ps bs l)
def Io (ps:List Prt) (bs:List Bk) (rd:Int):Nat→Nat→List Iq→Option (Int × List Iq)
 | 0,_,_=>none
 | f+1,r,l=>if Eg ps bs l=true then some (4,[]) else if ZU ps bs l (AI bs).length=false then some (0,l)
  else if (Dj ps bs (decide (rd<(r:Int))) l).any RX=true then some (22,[]) else Io ps bs rd f (r+1) (Dj ps bs (decide (rd<(r:Int))) l)
structure WA (bs:List Bk) (l:List Iq):Prop where
 len:l.length=(AI bs).length
 iw:∀ a∈l,IwS a 20000 20000
 far:∀ a∈l,RX a=false
 st:∀ k,k<(AI bs).length→gv (l[k]?.getD iZ).1≤gv ((CN bs)[k]?.getD (0,0))∧gv ((CN bs)[k]?.getD (0,0))≤gv (l[k]?.getD iZ).2
theorem ND {α:Type} {l:List α} {k:Nat} (h:k<l.length) (z:α):l[k]?.getD z∈l:=by rw [gE h,bd];exact gg h
section
variable {ps:List Prt} {bs:List Bk} {os:List Int} {l:List Iq} {rd:Int}
theorem WB (w:Bool):(Dj ps bs w l).length=(AI bs).length:=by unfold Dj;rw [af,fz]
theorem ZV (w:Bool) {k:Nat} (hk:k<(AI bs).length):(Dj ps bs w l)[k]?=some (nxI ps bs w l k):=by unfold Dj;rw [ag,gy hk];rfl
theorem WA.lb (h:WA bs l) (hb:Eg ps bs l=false):∀ a∈l,IwS a LB LB:=fun a ha=>Ta (h.iw a ha) ((Afm hb).1 a ha)
theorem ZW (he:AO ps bs os=0) (h:WA bs l) (hb:Eg ps bs l=false) {k:Nat} (hk:k<(AI bs).length):IwS (rgA ps bs l k) LB LB:=by
 obtain ⟨i,hi⟩:∃ i,(AI bs)[k]?=some i:=⟨_,gE hk⟩
 have hid:=GE hi
 obtain ⟨y,hy⟩:∃ y,bs[i]?=some y:=⟨_,gE hid.1⟩
 obtain ⟨b,hA0,hbl⟩:=Yb he hy (by rw [←GV hy];exact hid.2)
 obtain ⟨r,hr,_,hrs⟩:=Afn he (h.lb hb) h.len hb hbl
 unfold rgA
 rw [hi,bd,Yc hy hA0,hr]
 exact hrs
theorem WA.next (he:AO ps bs os=0) (h:WA bs l) (hb:Eg ps bs l=false) (w:Bool) (hf:(Dj ps bs w l).any RX=false):WA bs (Dj ps bs w l):=by
 have key:∀ k,k<(AI bs).length→IwS (nxI ps bs w l k) 20000 20000∧gv (nxI ps bs w l k).1≤gv (l[k]?.getD iZ).1∧gv (l[k]?.getD iZ).2≤gv (nxI ps bs w l k).2:=fun k hk=>by
  have:=Yj (w:=w) (h.lb hb _ (ND (by rw [h.len];exact hk) iZ)) (ZW he h hb hk)
  exact ⟨this.1,this.2.1,this.2.2.1⟩
 refine ⟨WB w,fun a ha=>?_,fun a ha=>?_,fun k hk=>?_⟩
 ·obtain ⟨k,hk,rfl⟩:=List.mem_map.1 ha
  exact (key k (List.mem_range.1 hk)).1
 ·have:=List.any_eq_false.1 hf a ha
  rwa [bc] at this
 ·rw [ZV w hk,bd]
  obtain ⟨_,k1,k2⟩:=key k hk
  obtain ⟨s1,s2⟩:=h.st k hk
  exact ⟨Int.le_trans k1 s1,Int.le_trans s2 k2⟩
theorem AiT (h:ZU ps bs l (AI bs).length=false) {k:Nat} (hk:k<(AI bs).length):loC (l[k]?.getD iZ) (rgA ps bs l k)=false∧hiC (l[k]?.getD iZ) (rgA ps bs l k)=false:=by
 have:=List.any_eq_false.1 h k (List.mem_range.2 hk)
 rw [bc] at this
 exact Bool.or_eq_false_iff.1 this
theorem Aft (he:AO ps bs os=0) (h:WA bs l) (hb:Eg ps bs l=false) (hc:ZU ps bs l (AI bs).length=false):Abt ps bs l=true:=AiQ fun k hk=>by
 have hl:=h.lb hb _ (ND (l:=l) (k:=k) (by rw [h.len];exact hk) iZ)
 have hr:=ZW he h hb hk
 have hst:=Nu he
 have hs:=CY hst.sm k
 obtain ⟨s1,s2⟩:=h.st k hk
 obtain ⟨c1,c2⟩:=AiT hc hk
 have e1:(Fd (l[k]?.getD iZ) (rgA ps bs l k)).1=(l[k]?.getD iZ).1:=bw fun hn=>by rw [show loC _ _=true from decide_eq_true hn] at c1;cases c1
 have e2:(Fd (l[k]?.getD iZ) (rgA ps bs l k)).2=(l[k]?.getD iZ).2:=bw fun hn=>by rw [show hiC _ _=true from decide_eq_true hn] at c2;cases c2
 obtain ⟨_,_,r2,_,r4⟩:=Afs hl hr
 rw [e1] at r2
 rw [e2] at r4
 show (iIn _ _ && iIn (rgA ps bs l k) _)=true
 rw [AeN (IwS.pt hs) hl,AeN hr hl,decide_eq_true (show _∧_ from ⟨s1,s2⟩),decide_eq_true (show _∧_ from ⟨r2,r4⟩)]
 rfl
theorem ZX (he:AO ps bs os=0):∀ (f r:Nat) (l:List Iq) (e:Int) (l':List Iq),WA bs l→Io ps bs rd f r l=some (e,l')→(e=0∧WA bs l'∧Eg ps bs l'=false∧Abt ps bs l'=true)∨((e=4∨e=22)∧l'=[])
 | 0,r,l,e,l',h,hi=>by cases hi
 | f+1,r,l,e,l',h,hi=>by
  unfold Io at hi
  by_cases h1:Eg ps bs l=true
  ·rw [if_pos h1] at hi;cases hi;exact .inr ⟨.inl rfl,rfl⟩
  ·rw [if_neg h1] at hi
   rw [bc] at h1
   by_cases h2:ZU ps bs l (AI bs).length=false
   ·rw [if_pos h2] at hi;cases hi;exact .inl ⟨rfl,h,h1,Aft he h h1 h2⟩
   ·rw [if_neg h2] at hi
    by_cases h3:(Dj ps bs (decide (rd<(r:Int))) l).any RX=true
    ·rw [if_pos h3] at hi;cases hi;exact .inr ⟨.inr rfl,rfl⟩
    ·rw [if_neg h3] at hi
     rw [bc] at h3
     exact ZX he f (r+1) _ e l' (h.next he h1 _ h3) hi
def mI (a:Iq):Nat:=phi (gv a.1)+psi (gv a.2)
def mL (bs:List Bk) (l:List Iq):Nat:=((List.range (AI bs).length).map fun k=>mI (l[k]?.getD iZ)).sum
theorem Akw {α:Type} {f:α→Nat} {B:Nat} (h:∀ k,f k≤B):∀ L:List α,(L.map f).sum≤B*L.length
 | []=>by simp
 | x::L=>by
  have:=Akw h L
  have:=h x
  rw [bp,List.sum_cons,bi,Nat.mul_succ]
  omega
theorem Akx {f g:Nat→Nat}:∀ {L:List Nat},(∀ k∈L,f k≤g k)→((L.map f).sum≤(L.map g).sum)∧((∃ k∈L,f k<g k)→(L.map f).sum<(L.map g).sum)
 | [],h=>⟨aa _,fun ⟨k,hk,_⟩=>by cases hk⟩
 | x::L,h=>by
  obtain ⟨i1,i2⟩:=Akx (L:=L) fun k hk=>h k (ek _ hk)
  have hx:=h x (fd ..)
  rw [bp,bp,List.sum_cons,List.sum_cons]
  refine ⟨by omega,fun ⟨k,hk,hlt⟩=>?_⟩
  rcases List.mem_cons.1 hk with rfl|hk
  ·omega
  ·have:=i2 ⟨k,hk,hlt⟩;omega
theorem Avn:mL bs l≤286*(AI bs).length:=by
 have:=Akw (f:=fun k=>mI (l[k]?.getD iZ)) (B:=286) (fun k=>by have:=AsH (gv (l[k]?.getD iZ).1);have:=AsI (gv (l[k]?.getD iZ).2);unfold mI;omega) (List.range (AI bs).length)
 rwa [fz] at this
theorem Avo (he:AO ps bs os=0) (h:WA bs l) (hb:Eg ps bs l=false) (hc:¬ ZU ps bs l (AI bs).length=false) (hf:(Dj ps bs true l).any RX=false):mL bs (Dj ps bs true l)<mL bs l:=by
 have hn:=h.next he hb true hf
 have key:∀ k,k<(AI bs).length→mI ((Dj ps bs true l)[k]?.getD iZ)≤mI (l[k]?.getD iZ)∧(Aul ps bs l k=true→mI ((Dj ps bs true l)[k]?.getD iZ)<mI (l[k]?.getD iZ)):=fun k hk=>by
  have hm:=ND (l:=Dj ps bs true l) (k:=k) (by rw [hn.len];exact hk) iZ
  obtain ⟨f1,f2,f3,f4⟩:=AsL (hn.iw _ hm) (hn.far _ hm)
  have hs:=Yj (w:=true) (h.lb hb _ (ND (by rw [h.len];exact hk) iZ)) (ZW he h hb hk)
  have e:(Dj ps bs true l)[k]?.getD iZ=En true (l[k]?.getD iZ) (rgA ps bs l k):=by rw [ZV true hk];rfl
  rw [e] at f1 f2 f3 f4 ⊢
  obtain ⟨_,_,_,h4⟩:=hs
  obtain ⟨a1,a2⟩:=h4 rfl
  have hcb:Aul ps bs l k=(loC (l[k]?.getD iZ) (rgA ps bs l k) || hiC (l[k]?.getD iZ) (rgA ps bs l k)):=rfl
  have b1:phi (gv (En true (l[k]?.getD iZ) (rgA ps bs l k)).1)≤phi (gv (l[k]?.getD iZ).1)∧(loC (l[k]?.getD iZ) (rgA ps bs l k)=true→phi (gv (En true (l[k]?.getD iZ) (rgA ps bs l k)).1)<phi (gv (l[k]?.getD iZ).1)):=by
   rcases a1 with ⟨c,e⟩|⟨c,u⟩
   ·rw [e,c];exact ⟨aa _,fun h=>by cases h⟩
   ·have:=AsJ (Afq u f1 f2) c
    exact ⟨by omega,fun _=>this⟩
  have b2:psi (gv (En true (l[k]?.getD iZ) (rgA ps bs l k)).2)≤psi (gv (l[k]?.getD iZ).2)∧(hiC (l[k]?.getD iZ) (rgA ps bs l k)=true→psi (gv (En true (l[k]?.getD iZ) (rgA ps bs l k)).2)<psi (gv (l[k]?.getD iZ).2)):=by
   rcases a2 with ⟨c,e⟩|⟨c,u⟩
   ·rw [e,c];exact ⟨aa _,fun h=>by cases h⟩
   ·have:=AsK (Afq u f3 f4) c
    exact ⟨by omega,fun _=>this⟩
  unfold mI
  refine ⟨by omega,fun hch=>?_⟩
  rw [hcb,eg] at hch
  rcases hch with hch|hch
  ·have:=b1.2 hch;omega
  ·have:=b2.2 hch;omega
 rw [ia] at hc
 obtain ⟨k,hk,hck⟩:=List.any_eq_true.1 hc
 exact (Akx fun k hk=>(key k (List.mem_range.1 hk)).1).2 ⟨k,hk,(key k (List.mem_range.1 hk)).2 hck⟩
theorem Tc (he:AO ps bs os=0):∀ (f r:Nat) (l:List Iq),WA bs l→rd<(r:Int)→mL bs l<f→∃ res,Io ps bs rd f r l=some res
 | 0,r,l,h,hr,hm=>absurd hm (fb _)
 | f+1,r,l,h,hr,hm=>by
  unfold Io
  by_cases h1:Eg ps bs l=true
  ·rw [if_pos h1];exact ⟨_,rfl⟩
  ·rw [if_neg h1]
   rw [bc] at h1
   by_cases h2:ZU ps bs l (AI bs).length=false
   ·rw [if_pos h2];exact ⟨_,rfl⟩
   ·rw [if_neg h2,decide_eq_true hr]
    by_cases h3:(Dj ps bs true l).any RX=true
    ·rw [if_pos h3];exact ⟨_,rfl⟩
    ·rw [if_neg h3]
     rw [bc] at h3
     have:=Avo he h h1 h2 h3
     exact Tc he f (r+1) _ (h.next he h1 _ h3) (by omega) (by omega)
theorem Td (he:AO ps bs os=0):∀ (d f r:Nat) (l:List Iq),WA bs l→rd<(r:Int)+d→d+286*(AI bs).length<f→∃ res,Io ps bs rd f r l=some res
 | 0,f,r,l,h,hr,hf=>Tc he f r l h (by omega) (by have:=Avn (bs:=bs) (l:=l);omega)
 | d+1,0,r,l,h,hr,hf=>absurd hf (fb _)
 | d+1,f+1,r,l,h,hr,hf=>by
  unfold Io
  by_cases h1:Eg ps bs l=true
  ·rw [if_pos h1];exact ⟨_,rfl⟩
  ·rw [if_neg h1]
   rw [bc] at h1
   by_cases h2:ZU ps bs l (AI bs).length=false
   ·rw [if_pos h2];exact ⟨_,rfl⟩
   ·rw [if_neg h2]
    by_cases h3:(Dj ps bs (decide (rd<(r:Int))) l).any RX=true
    ·rw [if_pos h3];exact ⟨_,rfl⟩
    ·rw [if_neg h3]
     rw [bc] at h3
     exact Td he d f (r+1) _ (h.next he h1 _ h3) (by omega) (by omega)
def DB (bs:List Bk):List Iq:=(CN bs).map fun p=>(p,p)
theorem Te (he:AO ps bs os=0) (hf:(DB bs).any RX=false):WA bs (DB bs):=by
 have hst:=Nu he
 refine ⟨by unfold DB;rw [af];exact hst.len,fun a ha=>?_,fun a ha=>?_,fun k hk=>?_⟩
 ·obtain ⟨p,hp,rfl⟩:=List.mem_map.1 ha
  exact (IwS.pt (hst.sm p hp)).more (by decide) (by decide)
 ·have:=List.any_eq_false.1 hf a ha
  rwa [bc] at this
 ·obtain ⟨p,hp⟩:∃ p,(CN bs)[k]?=some p:=⟨_,gE (by rw [hst.len];exact hk)⟩
  unfold DB
  rw [ag,hp]
  exact ⟨ck _,ck _⟩
end
def UF (a:Iq):Rv × Rv:=(EL a.1,EL a.2)
theorem Rg (l:List Iq):Acd (l.map UF)=.row false 6 l.length (Ay (dIw false) l):=by
 unfold Acd Ay
 rw [af,dv]
 congr 2
 refine ej fun a _=>?_
 show dRv false (EL a.1)++dRv false (EL a.2)=dIw false a
 rw [Nv,Nv]
 rfl
theorem Qb (l:List Iq):(l.map UF).map ivQ=l:=by
 rw [dv]
 refine (ej fun a _=>?_).trans (List.map_id l)
 show (rvP (EL a.1),rvP (EL a.2))=a
 rw [Il,Il]
section
variable {ps:List Prt} {bs:List Bk} {os:List Int} {l:List Iq} {rd:Int}
theorem WC {d:Nat} (h:∀ a∈l,IwS a n d) (hn:n≤1280000):∀ q∈l.map UF,RvL q.1∧RvL q.2:=fun q hq=>by
 obtain ⟨a,ha,rfl⟩:=List.mem_map.1 hq
 exact ⟨Ny (h a ha).s1 hn,Ny (h a ha).s2 hn⟩
theorem Aky {d:Nat} (h0:AO ps bs os=0) (h:∀ a∈l,IwS a n d) (hl:l.length=(AI bs).length):rgE ps bs os (l.map UF)=if Eg ps bs l=true then 4 else 0:=by
 rw [rgE4 h0 (by rw [af];exact hl) (by rw [ia];exact List.all_eq_true.2 fun q hq=>by obtain ⟨a,ha,rfl⟩:=List.mem_map.1 hq;exact Afa (h a ha)),Qb]
def nxS (ps:List Prt) (bs:List Bk) (w:Bool) (l:List Iq) (k:Nat):List (Option Iq):=(List.range (AI bs).length).map fun j=>if j<k then some (nxI ps bs w l j) else none
theorem Afu {k:Nat}:(nxS ps bs w l k).length=(AI bs).length:=by unfold nxS;rw [af,fz]
theorem Avp:List.replicate (AI bs).length none=nxS ps bs w l 0:=by
 unfold nxS
 refine ep fun i=>?_
 rw [ag,ll]
 by_cases hi:i<(AI bs).length
 ·rw [gy hi,if_pos hi];rfl
 ·rw [dq (by rw [fz];omega),if_neg hi];rfl
theorem Aok {k:Nat} (hk:k<(AI bs).length):(nxS ps bs w l k).set k (some (nxI ps bs w l k))=nxS ps bs w l (k+1):=by
 refine ep fun i=>?_
 rw [bk,Afu]
 unfold nxS
 rw [ag,ag]
 by_cases hi:i<(AI bs).length
 ·rw [gy hi,bo,bo]
  by_cases hik:k=i
  ·subst hik
   rw [if_pos rfl,if_pos hk,if_pos (by omega)]
  ·rw [if_neg hik]
   by_cases h2:i<k
   ·rw [if_pos h2,if_pos (by omega)]
   ·rw [if_neg h2,if_neg (by omega)]
 ·rw [dq (by rw [fz];omega),if_neg (by omega)];rfl
theorem Aol:kWs (nxS ps bs w l (AI bs).length)=(Ay (dIw false) (Dj ps bs w l)).map C.d:=by
 unfold kWs nxS Ay Dj
 rw [List.map_flatten,dv,dv,dv]
 congr 1
 refine ej fun j hj=>?_
 show kW (if j<_ then _ else _)=_
 rw [if_pos (List.mem_range.1 hj)]
 rfl
theorem Afv {k b:Nat} (hi:(AI bs)[k]?=some i) (hy:bs[i]?=some y) (hA:y.args[0]?=some (b:Int)) (ha:l[k]?=some a) (hr:(rgV ps bs l)[b]?=some r):ZU ps bs l (k+1)=(ZU ps bs l k || loC a r || hiC a r)∧(∀ w,nxI ps bs w l k=En w a r):=by
 have e1:rgA ps bs l k=r:=by unfold rgA;rw [hi,bd,Yc hy hA,hr,bd]
 refine ⟨?_,fun w=>by unfold nxI;rw [ha,bd,e1]⟩
 unfold ZU
 rw [ct,List.any_append,List.any_cons,List.any_nil,Bool.or_false]
 unfold Aul
 rw [ha,bd,e1,Bool.or_assoc]
theorem Akz {p q:Pq} {d n' d':Nat} (hp:Sm p n d) (hq:Sm q n' d'):(BM p.1 p.2 q.1 q.2 != 0)=decide (¬ p=q):=by
 rw [lg,bne_iff_ne,decide_eq_true_eq]
 refine not_congr ((ArY hp.le hq.le).trans ⟨fun h=>SR hp.ok hq.ok h,fun h=>by rw [h]⟩)
def Tf (ps:List Prt) (bs:List Bk) (rd:Int) (f:Nat):Option (Int × List Iq):=if (DB bs).any RX=true then some (22,[]) else Io ps bs rd f 1 (DB bs)
theorem Abu {l:List Iq} {k:Nat} {p:Iq} (h:l[k]?=some p):(Ay (dIw false) (l.take k)).map C.d++(dIw false p).map C.d=(Ay (dIw false) (l.take (k+1))).map C.d∧(l.take k).length+1=(l.take (k+1)).length∧(l.take k).length≤k:=by
 refine ⟨?_,?_,by rw [dj];omega⟩
 ·rw [aq,h,eb,EA,et];rfl
 ·rw [aq,h,ak];rfl
end
theorem AsM (k:p') (h:Hd9 p'→p:=by with_reducible first|(intro Z9;refine Tx 12 ?_;refine gO (xIr Ah (Ug hp)) <| gO xL <| gN (xAl Ao) <| gZ (xSk Ad) ?_;exact Z9.o)|(intro Z9;refine Tx 13 ?_;refine gO xL <| gO (xCl func140 (PT)) <| gN (xAl Ap) <| gZ (xSk Ag) ?_;exact Z9.o)|(intro Z9;refine Tx 14 ?_;refine gO xL <| gO (xCl func174 (FR)) ?_;exact Z9.o)|fail):p:=h ⟨k⟩
theorem Abv (t:Bool) {ps:List Prt} {bs:List Bk} {os:List Int} (hl:Fa ps bs os) (h0:AO ps bs os=0) (rd:Int) (r0:1≤rd) (r1:rd≤16) (res:Int × List Iq) (f:Nat) (hf:f≤1000000000) (hres:Tf ps bs rd f=some res):CV prog An 84 [aDg t ps bs os,aI rd] [AsB res.2,aE res.1]:=by
 refine cvz func84 ntmps84 ?_
 have SC:=Wl t hl (ps:=ps) (bs:=bs) (os:=os)
 have DL:=(Hz t hl (ps:=ps) (bs:=bs) (os:=os)).cv
 rw [h0,RP rfl] at SC
 rw [if_pos h0,h0] at DL
 unfold Akn at SC
 have hnl:=Dr (AI bs)
 have hl2:=hl.l2
 have hdb:=Mp bs
 have hso:=Nu h0
 have hsl:=hso.len
 have hsi:(DB bs).length=(CN bs).length:=af ..
 repeat' (with_reducible first|refine qq ?_|(refine Tx 0 ?_;refine gN xBo <| gO xA <| gO xA ?_)|(refine Tx 1 ?_;refine gO xL <| gO (xCl func53 (SC)) <| gO xMt <| gO xEx <| gO xEx <| gO xA <| gO xA ?_)|(refine Tx 2 ?_;refine gO xM <| gO (xNE Ai) ?_)|(refine Tx 4 ?_;refine gO xM <| gO xLt <| gO xM ?_;(first|iterate 2 refine Jd ?_|(refine Jy xM1 ?_;refine Jy xGt ?_));refine gO xPk ?_)|(refine Tx 6 ?_;refine gO xL <| gO (xCl func19 (DL)) <| gO xMt <| gO xEx <| gO xEx <| gO xA <| gO xA ?_)|(refine Tx 7 ?_;refine gO xM <| gO (xNE Ai) ?_)|(refine Tx 9 ?_;refine gO xA ?_)|(refine Tx 10 ?_;refine gO xM <| gO xN <| gO xM ?_))
 refine Bj (MS 9 45 6 rfl) ?_
 refine Bj (BK 2) (Av (fun n Fr H=>∃ k:Nat,k≤(CN bs).length∧n=(CN bs).length - k∧(∀ p∈((DB bs).take (k)),RX p=false)∧Fr=ofL [(1,vd (.val (.int .i64 rd))),(2,vr 0),(8,vd (AU false (BZ (AI bs)))),(9,vo 1 (((DB bs).take k).length)),(49,vd (.row false 3 (CN bs).length (Ay dyP (CN bs)))),(50,vi ((CN bs).length)),(51,vi ((k:Nat)))]∧H=[.box 26 [.d (Di t ps),.d (DK t bs),.d (AU t os)],.row 45 6 ((DB bs).take (k)).length ((Ay (dIw false) ((DB bs).take (k))).map C.d)]) (n0:=(CN bs).length) ⟨0,ad _,rfl,(fun p hp=>by simp at hp),rfl,rfl⟩ ?_)
 rintro n Fr H ⟨k,hk,rfl,hnf,rfl,rfl⟩
 by_cases hlt:k<(CN bs).length
 case pos =>
  obtain ⟨p,hp⟩:∃ p,(CN bs)[k]?=some p:=⟨_,gE hlt⟩
  have hsm:=hso.sm p (gM hp)
  have lp:=lT (hsm.lenN 128 (by decide)) (show 128≤40000 by decide)
  have PT:=DN p hsm.ok lp
  have FR:=ZT (p,p) ((IwS.pt hsm).more (by decide) (by decide))
  have hsp:(DB bs)[k]?=some (p,p):=by unfold DB;rw [ag,hp];rfl
  obtain ⟨hap,hap2,hoL⟩:=Abu hsp
  cases hf:RX (p,p)
  case true =>
   rw [hf] at FR
   have hany:(DB bs).any RX=true:=List.any_eq_true.2 ⟨_,gM hsp,hf⟩
   rw [show Tf ps bs rd f=some (22,[]) from if_pos hany] at hres
   cases hres
   repeat' (with_reducible first|refine qq ?_|(refine Tx 11 ?_;refine gO xLt ?_)|refine AsM ?_|(refine Tx 15 ?_;refine gO (xMi underlying109) <| gO xA <| gO xA ?_))
   exact Re
  case false =>
   rw [hf] at FR
   repeat' (with_reducible first|refine qq ?_|(refine Tx 11 ?_;refine gO xLt ?_)|refine AsM ?_|(refine Tx 16 ?_;refine gO xM <| gO xL <| gN (by exact Bp rfl Aj Ap rfl rfl (by decide) (by decide)) <| gT (by exact Gx rfl rfl rfl rfl rfl rfl Aj Ap (by omega) (by decide) (by decide) rfl hap hap2) <| gO xA ?_)|(refine Tx 17 ?_;refine gO xAd <| gO xM ?_))
   refine ⟨_,_,BK 2,_,?_,k+1,by omega,rfl,ED hnf hsp hf,rfl,rfl⟩
   ·omega
 obtain rfl:k=(CN bs).length:=by omega
 clear hlt hk
 have htk:(DB bs).take (CN bs).length=DB bs:=by rw [←hsi,au]
 rw [htk] at hnf ⊢
 have hany:(DB bs).any RX=false:=List.any_eq_false.2 fun p hp=>by rw [hnf p hp];decide
 rw [show Tf ps bs rd f=Io ps bs rd f 1 (DB bs) from if_neg (by rw [hany];decide)] at hres
 have hI0:=Te h0 hany
 repeat' (with_reducible first|refine qq ?_|(refine Tx 11 ?_;refine gO xLt ?_)|(refine Tx 18 ?_;refine gO xA ?_))
 refine Bj (GA (ds:=Ay (dIw false) (DB bs)) 9 1 rfl rfl) ?_
 refine Bj (BK 1) (Av (fun n Fr H=>∃ (r:Nat) (l:List Iq),Io ps bs rd n r l=some res∧WA bs l∧r+n≤1+f∧Fr=ofL [(1,vd (.val (.int .i64 rd))),(2,vr 0),(8,vd (AU false (BZ (AI bs)))),(9,vd (.row false 6 l.length (Ay (dIw false) l))),(13,vi ((r:Nat)))]∧H=[.box 26 [.d (Di t ps),.d (DK t bs),.d (AU t os)]]) (n0:=f) ⟨1,_,hres,hI0,aa _,rfl,rfl⟩ ?_)
 clear hres hI0 hnf hany htk
 rintro n Fr H ⟨r,l,hres,hI,hrn,rfl,rfl⟩
 cases n
 case zero =>
  cases hres
 rename_i n
 case succ =>
  unfold Io at hres
  have hll:=hI.len
  have EV:=Wz t hl (l.map UF) (WC hI.iw (by decide)) (by rw [af];omega)
  rw [Aky h0 hI.iw hll,Qb,Rg] at EV
  by_cases hb:Eg ps bs l=true
  case pos =>
   rw [if_pos hb] at hres
   cases hres
   rw [if_pos hb,Gn (by decide)] at EV
   repeat' (with_reducible first|refine qq ?_|(refine Tx 20 ?_;refine gO xL <| gO xM <| gO (xCl func85 (EV)) <| gO xMt <| gO xEx <| gO xEx <| gO xA <| gO xA ?_)|(refine Tx 21 ?_;refine gO xM <| gO (xNE Ai) ?_)|(refine Tx 22 ?_;refine gO xM <| gO xA <| gO xA ?_))
   exact Re
  rw [if_neg hb] at hres
  rw [if_neg hb,RP rfl] at EV
  rw [bc] at hb
  unfold AsB at EV
  have hlb:=hI.lb hb
  have hvl:(rgV ps bs l).length=bs.length:=Rf
  obtain ⟨w,hwd⟩:∃ w,decide (rd<(r:Int))=w:=⟨_,rfl⟩
  rw [hwd] at hres
  repeat' (with_reducible first|refine qq ?_|(refine Tx 20 ?_;refine gO xL <| gO xM <| gO (xCl func85 (EV)) <| gO xMt <| gO xEx <| gO xEx <| gO xA <| gO xA ?_)|(refine Tx 21 ?_;refine gO xM <| gO (xNE Ai) ?_)|(refine Tx 23 ?_;refine gO xA ?_)|(refine Tx 24 ?_;refine gO xM <| gO xN <| gN (by first|exact Wt (n:=l.length) rfl rfl rfl Aj Ap (by omega) (by decide)|exact Br rfl rfl rfl Aj Ap (by omega) (by decide)) <| gO xA ?_)|(refine Tx 25 ?_;refine gO xM <| gO xN <| gO xM ?_))
  refine Bj (BK 2 (hH:=by rw [←Avp,←hll];rfl) (h:=by rw [←hnl];exact mB rfl rfl)) (Av (fun n Fr H=>∃ k:Nat,k≤(AI bs).length∧n=(AI bs).length - k∧Fr=ofL [(1,vd (.val (.int .i64 rd))),(2,vr 0),(8,vd (AU false (BZ (AI bs)))),(9,vd (.row false 6 l.length (Ay (dIw false) l))),(13,vi ((r:Nat))),(14,vd (.row false 6 (rgV ps bs l).length (Ay (dIw false) (rgV ps bs l)))),(16,vd (.val (.bool (ZU ps bs l k)))),(17,vo 1 l.length),(79,vd (AU false (BZ (AI bs)))),(80,vi ((AI bs).length)),(81,vi ((k:Nat)))]∧H=[.box 26 [.d (Di t ps),.d (DK t bs),.d (AU t os)],.row 45 6 l.length (kWs (nxS ps bs w l (k)))]) (n0:=(AI bs).length) ⟨0,ad _,rfl,rfl,rfl⟩ ?_)
  rintro m Fr H ⟨k,hk,rfl,rfl,rfl⟩
  by_cases hlt:k<(AI bs).length
  case pos =>
   obtain ⟨i,hi⟩:∃ i,(AI bs)[k]?=some i:=⟨_,gE hlt⟩
   have hid:=GE hi
   have hil:=hid.1
   obtain ⟨y,hy⟩:∃ y,bs[i]?=some y:=⟨_,gE hil⟩
   have hk2:=hid.2
   rw [GV hy] at hk2
   obtain ⟨b,hA0,hbl⟩:=Yb h0 hy hk2
   obtain ⟨rr,hr,_,hrs⟩:=Afn h0 hlb hll hb hbl
   have hal:=(gS.1 hA0).1
   obtain ⟨a,ha⟩:∃ a,l[k]?=some a:=⟨_,gE (by omega)⟩
   have has:=hlb a (gM ha)
   have has2:=has.more LBx LBx
   have hrs2:=hrs.more LBx LBx
   have HU:=QZ a rr has2 hrs2
   have RO:CV prog An 175 [aIw false (Lo a rr),aI (64:Int)] [aIw false (Fd a rr),aE 0]:=Abn (Lo a rr) 64 (has2.hull hrs2) (by decide)
   obtain ⟨hq,_,_,_,_⟩:=Afs has hrs
   have q1:=hq.s1
   have q2:=hq.s2
   have l1:=lT (q1.lenN 128 (by decide)) (show 128≤40000 by decide)
   have l2:=lT (q2.lenN 128 (by decide)) (show 128≤40000 by decide)
   have m1:=lT (has.s1.lenN 128 (by decide)) (show 128≤40000 by decide)
   have m2:=lT (has.s2.lenN 128 (by decide)) (show 128≤40000 by decide)
   have C1:=Cv (Fd a rr).1.1 (Fd a rr).1.2 a.1.1 a.1.2 q1.ok has.s1.ok l1 m1
   have C2:=Cv (Fd a rr).2.1 (Fd a rr).2.2 a.2.1 a.2.2 q2.ok has.s2.ok l2 m2
   have hb1:(BM (Fd a rr).1.1 (Fd a rr).1.2 a.1.1 a.1.2 != 0)=loC a rr:=Akz q1 has.s1
   have hb2:(BM (Fd a rr).2.1 (Fd a rr).2.2 a.2.1 a.2.2 != 0)=hiC a rr:=Akz q2 has.s2
   have NG1:=Fc (Fd a rr).1.1 (Fd a rr).1.2 q1.ok l1
   obtain ⟨u1,_,_⟩:Sm (upP (GF (Fd a rr).1)) 20000 20000∧gv (GF (Fd a rr).1)≤gv (upP (GF (Fd a rr).1))∧inU (gv (upP (GF (Fd a rr).1))):=Yi q1.neg
   have UP1:=Afp (GF (Fd a rr).1) (q1.neg.more (by decide) (by decide))
   have NG2:=Fc (upP (GF (Fd a rr).1)).1 (upP (GF (Fd a rr).1)).2 u1.ok u1.lz
   have UP2:=Afp (Fd a rr).2 (q2.more (by decide) (by decide))
   obtain ⟨hck,hnx⟩:=Afv hi hy hA0 ha hr
   have tl:k<(nxS ps bs w l k).length:=by rw [Afu];exact hlt
   have stV:=Aok (ps:=ps) (bs:=bs) (w:=w) (l:=l) hlt
   rw [hnx w,show En w a rr=(if (decide (rd<(r:Int)) && loC a rr)=true then GF (upP (GF (Fd a rr).1)) else (Fd a rr).1,if (decide (rd<(r:Int)) && hiC a rr)=true then upP (Fd a rr).2 else (Fd a rr).2) from by rw [hwd];rfl] at stV
   clear hq
   generalize upP (GF (Fd a rr).1)=u at *
   generalize upP (Fd a rr).2=v at *
   generalize Fd a rr=q at *
   repeat' (with_reducible first|refine qq ?_|(refine Tx 26 ?_;refine gO xLt ?_)|(refine Tx 27 ?_;refine gO xM <| gO (by first|exact xIr Af (AG (Ib hi))|exact xIr Af (Ms ha)) <| gO xD <| gO xA <| gO xA ?_)|(refine FK (id:=28) 21 [(21,19)] AN (by kernel_rfl) ?_;dsimp only [List.take,List.drop];refine gP xM <| gP xM <| gP (xIr Aj (Ms ha)) <| gP xL <| gP xM <| gP xF <| gP xD <| gP xM <| gP (by first|exact xIr Al (Fb hy)|exact xIr Al (Ms ha)) <| gP xF <| gP xD <| gP (by first|exact xIr Af (AG hA0)|exact xIr Af (Ms ha)) <| gP xD <| gP (by first|exact xIr Aj (Ms hr)|exact xIr Aj (Ms ha)) <| gP xL <| gP (xCl func142 (HU)) <| gP (xCl func175 (RO)) <| gP xMt <| gP (by exact EO rfl rfl rfl) <| gP xEx <| gQ (xAl Ap) ?_;refine Ke ?_;refine gZ (xSk Ag) <| gO xA ?_)|(refine Tx 29 ?_;refine gO xM <| gO (xNE Ai) ?_)|(refine BU (id:=31) AN (by kernel_rfl) ?_;refine gP xF <| gP xL <| gP xM <| gP xM <| gP (xIr Aj (Ms ha)) <| gP xF <| gP xL <| gP (xCl func15 (C1)) <| gP (by first|exact XE rfl rfl rfl hb1|exact xNe) <| gP xF <| gP xL <| gP xM <| gP xM <| gP (xIr Aj (Ms ha)) <| gP xF <| gP xL <| gP (xCl func15 (C2)) <| gP (by first|exact XE rfl rfl rfl hb2|exact xNe) <| gP xA <| gP xA ?_;refine Ke ?_))
   refine Bj (F':=ofL [(1,vd (.val (.int .i64 rd))),(2,vr 0),(8,vd (AU false (BZ (AI bs)))),(9,vd (.row false 6 l.length (Ay (dIw false) l))),(13,vi ((r:Nat))),(14,vd (.row false 6 (rgV ps bs l).length (Ay (dIw false) (rgV ps bs l)))),(16,vd (.val (.bool (ZU ps bs l k)))),(17,vo 1 l.length),(79,vd (AU false (BZ (AI bs)))),(80,vi ((AI bs).length)),(81,vi ((k:Nat))),(18,vi ((k:Nat))),(20,vr 2),(22,vd (.val (.bool (loC a rr)))),(23,vd (.val (.bool (hiC a rr))))]) (H':=[.box 26 [.d (Di t ps),.d (DK t bs),.d (AU t os)],.row 45 6 l.length (kWs (nxS ps bs w l k)),.box 45 ((dIw false q).map C.d)]) (BK 3) ?_
   clear hb1 hb2 C1 C2 HU RO m1 m2 SC EV DL
   cases hb1:loC a rr <;> cases hb2:hiC a rr <;> cases hc:ZU ps bs l k <;> by_cases hw:rd<(r:Int)
   all_goals
    rw [hb1,hb2] at stV
    simp only [hw,decide_true,decide_false,ga,gz,du,if_true,if_false] at stV
    skip
    repeat' (with_reducible first|refine qq ?_|(refine Tx 32 ?_;refine gO xM <| gO xM ?_;(first|refine Jd ?_|refine Jy xM1 ?_);refine gO xPk <| gO xM ?_;(first|refine Jd ?_|refine Jy xM1 ?_);refine gO xPk <| gO xA ?_)|(refine Tx 33 ?_;refine gO xM <| gO xM <| gO xGt <| gO xM ?_;(first|refine Jd ?_|refine Jy xM1 ?_);refine gO xPk ?_)|(refine Tx 34 ?_;refine gO xF <| gO xL <| gO (xCl func176 (NG1)) <| gO (xCl func177 (UP1)) <| gO (xCl func176 (NG2)) <| gO xF <| gZ (xSk Ad) ?_)|(refine Tx 35 ?_;refine gO xM <| gO xM <| gO xGt <| gO xM ?_;(first|refine Jd ?_|refine Jy xM1 ?_);refine gO xPk ?_)|(refine Tx 36 ?_;refine gO xF <| gO xL <| gO (xCl func177 (UP2)) <| gO xF <| gZ (xSk Ad) ?_)|(refine Tx 37 ?_;refine gO xM <| gO xM <| gO xL <| gO (xIo (i:=k) Aj) <| gZ Aoh ?_)|(refine Tx 38 ?_;refine gO xAd <| gO xM ?_))
    refine ⟨_,_,BK 2 (h:=by rw [hck,hc,hb1,hb2];exact mB rfl rfl),_,?_,k+1,by omega,rfl,rfl,rfl⟩
    ·omega
  obtain rfl:k=(AI bs).length:=by omega
  clear hlt hk
  rw [Aol]
  have hnL:(Dj ps bs w l).length=(AI bs).length:=WB w
  by_cases hch:ZU ps bs l (AI bs).length=false
  case pos =>
   rw [if_pos hch] at hres
   cases hres
   rw [hch]
   repeat' (with_reducible first|refine qq ?_|(refine Tx 26 ?_;refine gO xLt ?_)|(refine Tx 39 ?_;refine gO xM <| gO Abs ?_)|(refine Tx 40 ?_;refine gO xM <| gO xA <| gO xA ?_))
   exact AH rfl (.cons_ (.tmp (.one (Bs rfl fun _=>.row (Ce (f:=dIw false) Ik l)))) (.cons_ (Gk rfl rfl) .nil_))
  rw [if_neg hch] at hres
  rw [ia] at hch
  rw [hch]
  repeat' (with_reducible first|refine qq ?_|(refine Tx 26 ?_;refine gO xLt ?_)|(refine Tx 39 ?_;refine gO xM <| gO Abs ?_))
  refine Bj (GA (ds:=Ay (dIw false) (Dj ps bs w l)) 17 1 rfl rfl) ?_
  repeat' (with_reducible first|refine qq ?_|(refine Tx 41 ?_;refine gO xM <| gO xN <| gO xM ?_))
  refine Bj (BK 1 (h:=by rw [hnL,←hll];exact mB rfl rfl)) (Av (fun n Fr H=>∃ k:Nat,k≤(Dj ps bs w l).length∧n=(Dj ps bs w l).length - k∧(∀ p∈(Dj ps bs w l).take k,RX p=false)∧Fr=ofL [(1,vd (.val (.int .i64 rd))),(2,vr 0),(8,vd (AU false (BZ (AI bs)))),(13,vi ((r:Nat))),(17,vd (.row false 6 (Dj ps bs w l).length (Ay (dIw false) (Dj ps bs w l)))),(164,vd (.row false 6 (Dj ps bs w l).length (Ay (dIw false) (Dj ps bs w l)))),(165,vi ((Dj ps bs w l).length)),(166,vi ((k:Nat)))]∧H=[.box 26 [.d (Di t ps),.d (DK t bs),.d (AU t os)]]) (n0:=(Dj ps bs w l).length) ⟨0,ad _,rfl,(fun p hp=>by simp at hp),rfl,rfl⟩ ?_)
  rintro m Fr H ⟨k,hk,rfl,hnf,rfl,rfl⟩
  by_cases hlt:k<(Dj ps bs w l).length
  case pos =>
   obtain ⟨x,hx⟩:∃ x,(Dj ps bs w l)[k]?=some x:=⟨_,gE hlt⟩
   have hxs:IwS x 20000 20000:=by
    obtain ⟨j,hj,rfl⟩:=List.mem_map.1 (gM hx)
    have hj:=List.mem_range.1 hj
    exact (Yj (hlb _ (ND (by omega) iZ)) (ZW h0 hI hb hj)).1
   have FR:=ZT x hxs
   cases hf:RX x
   case true =>
    rw [hf] at FR
    have hany:(Dj ps bs w l).any RX=true:=List.any_eq_true.2 ⟨_,gM hx,hf⟩
    rw [if_pos hany] at hres
    cases hres
    repeat' (with_reducible first|refine qq ?_|(refine Tx 42 ?_;refine gO xLt ?_)|(refine Tx 43 ?_;refine gO (xIr Aj (Ms hx)) <| gO xL <| gN (xAl Ap) <| gZ (xSk Ag) ?_)|(refine Tx 44 ?_;refine gO xL <| gO (xCl func174 (FR)) ?_)|(refine Tx 45 ?_;refine gO (xMi underlying109) <| gO xA <| gO xA ?_))
    exact Re
   case false =>
    rw [hf] at FR
    repeat' (with_reducible first|refine qq ?_|(refine Tx 42 ?_;refine gO xLt ?_)|(refine Tx 43 ?_;refine gO (xIr Aj (Ms hx)) <| gO xL <| gN (xAl Ap) <| gZ (xSk Ag) ?_)|(refine Tx 44 ?_;refine gO xL <| gO (xCl func174 (FR)) ?_)|(refine Tx 46 ?_;refine gO xAd <| gO xM ?_))
    refine ⟨_,_,BK 1,_,?_,k+1,by omega,rfl,ED hnf hx hf,rfl,rfl⟩
    ·omega
  obtain rfl:k=(Dj ps bs w l).length:=by omega
  clear hlt hk
  rw [au] at hnf
  have hany:(Dj ps bs w l).any RX=false:=List.any_eq_false.2 fun p hp=>by rw [hnf p hp];decide
  rw [if_neg (by rw [hany];decide)] at hres
  repeat' (with_reducible first|refine qq ?_|(refine Tx 42 ?_;refine gO xLt ?_)|(refine Tx 47 ?_;refine gO xM <| gO xA ?_)|(refine Tx 19 ?_;refine gO xM <| gO xAd <| gO xA ?_))
  refine ⟨_,_,BK 1,n,Nat.lt_succ_self n,r+1,(Dj ps bs w l),hres,hI.next h0 hb w hany,by omega,rfl,rfl⟩
def Yk (t:Bool) (ps:List Prt) (is:List Int) (xs:List Ins) (os:List Int):A:=.agg [Di t ps,AU t is,AbZ t xs,AU t os]
theorem WD (n e f:Int):CVF prog An 117 [.agg [dI n,dI e],aI f] [aI (DM n e f),aE (BX n e f)]:=fun w S vs hg hlt ha=>by
 obtain ⟨v,vs',rfl,h1,ha⟩:=ha.uncons
 obtain ⟨u,hu,h2⟩:=BQ ha
 subst hu
 obtain ⟨xs,rfl,h3⟩:=h1
 have h4:=PG (vs:=[.int .i64 n,.int .i64 e]) h3
 subst h4
 cases h2
 refine (AhZ n e f w hg).mono fun r w' ⟨he,hb⟩=>?_
 exact ⟨_,he,TW (Bo.val rfl) (Bo.val (Zq _)),hb⟩
theorem Avq (k:Int):CVF prog An 118 [aI k] [aI (opM k)]:=fun w S vs hg hlt ha=>by
 obtain ⟨u,hu,h2⟩:=BQ ha
 subst hu
 cases h2
 refine (Um k w).mono fun r w' ⟨he,hw⟩=>?_
 subst hw
 exact ⟨_,he,Bo.val rfl,ab _ _⟩
theorem Aom (xs:List Int) (y z:Int):cI xs++[.d (.val (.int .i64 y)),.d (.val (.int .i64 z))]=cI (xs++[y,z]):=by simp [cI]
def cD (ds:List D):List C:=ds.map C.d
theorem AkA (xs ys:List D):cD xs++cD ys=cD (xs++ys):=(et ..).symm
theorem Tg {l:List Nat} (h:l[t]?=some j):(BZ l)[t]?=some (j:Int):=by simp [BZ,h]
def EJ (f:Nat→Int) (k j:Nat):Int:=if j<k then f j else 0
theorem NF {k:Nat}:(tab n (EJ f k)).set k (f k)=tab n (EJ f (k+1)) :=
 XT (by unfold EJ;rw [if_pos (by omega)]) fun j hj=>by
  unfold EJ
  by_cases h:j<k
  ·rw [if_pos h,if_pos (by omega)]
  ·rw [if_neg h,if_neg (by omega)]
theorem Fx {k:Nat} (h:f k=0):tab n (EJ f k)=tab n (EJ f (k+1)) :=
 IT fun j _=>by
  unfold EJ
  by_cases h1:j<k
  ·rw [if_pos h1,if_pos (by omega)]
  ·by_cases h2:j=k
   ·subst h2
    rw [if_neg h1,if_pos (by omega),h]
   ·rw [if_neg h1,if_neg (by omega)]
theorem UG:tab n (EJ f n)=tab n f:=IT fun j hj=>by unfold EJ;rw [if_pos hj]
theorem Afw (n:Nat) (f:Nat→Int):tab n (EJ f 0)=List.replicate n 0:=by
 rw [←Air]
 exact IT fun j _=>by unfold EJ;rw [if_neg (by omega)]
def Fe (bs:List Bk) (F:List Int) (j:Nat):Int:=if AK bs j=2 then Ev bs F j else 0
def OA (bs:List Bk) (t j:Nat):Int:=if AK bs j=2∧LH (dlB bs) j<t then (bs.length:Int)+(LH (dlB bs) j:Int) else 0
def OB (bs:List Bk) (t j:Nat):Int :=
 if AK bs j=2 then (bs.length:Int)+(LH (dlB bs) j:Int) else if AK bs j=11∧LH (cpB bs) j<t then (bs.length:Int)+((dlK bs bs.length).length:Int)+2*(LH (cpB bs) j:Int) else 0
theorem Rh:(dlK bs bs.length)[t]?=some j ↔ j<bs.length∧AK bs j=2∧LH (dlB bs) j=t:=by
 unfold dlK
 rw [Ni (dlB bs) t j]
 simp [dlB]
theorem Afx:(cpK bs bs.length)[t]?=some j ↔ j<bs.length∧AK bs j=11∧LH (cpB bs) j=t:=by
 unfold cpK
 rw [Ni (cpB bs) t j]
 simp [cpB]
theorem OD (h:j<bs.length) (hk:AK bs j=2):LH (dlB bs) j<(dlK bs bs.length).length :=
 (gS.1 (Rh.2 ⟨h,hk,rfl⟩)).1
theorem OE (h:j<bs.length) (hk:AK bs j=11):LH (cpB bs) j<(cpK bs bs.length).length :=
 (gS.1 (Afx.2 ⟨h,hk,rfl⟩)).1
theorem ZY (p:Nat→Bool) {i j:Nat} (hi:p i=true) (hj:p j=true) (h:LH p i=LH p j):i=j:=by
 have h1:=(Ni p (LH p i) i (i+j+1)).2 ⟨by omega,hi,rfl⟩
 have h2:=(Ni p (LH p i) j (i+j+1)).2 ⟨by omega,hj,h.symm⟩
 rw [h1] at h2
 exact Option.some.inj h2
theorem AiU (h:(dlK bs bs.length)[t]?=some i):OA bs (t+1) i=(bs.length:Int)+(t:Int):=by
 obtain ⟨_,h2,h3⟩:=Rh.1 h
 unfold OA
 rw [if_pos ⟨h2,by omega⟩,h3]
theorem Afy (h:(dlK bs bs.length)[t]?=some i) (hj:j≠i):OA bs (t+1) j=OA bs t j:=by
 obtain ⟨_,h2,h3⟩:=Rh.1 h
 unfold OA
 by_cases hk:AK bs j=2
 ·by_cases hr:LH (dlB bs) j<t
  ·rw [if_pos ⟨hk,by omega⟩,if_pos ⟨hk,hr⟩]
  ·have hne:LH (dlB bs) j≠t:=fun e=>hj (ZY (dlB bs) (by simp [dlB,hk]) (by simp [dlB,h2]) (by rw [e,h3]))
   rw [if_neg (fun hc=>by have:=hc.2;omega),if_neg (fun hc=>hr hc.2)]
 ·rw [if_neg (fun hc=>hk hc.1),if_neg (fun hc=>hk hc.1)]
theorem Abw (bs:List Bk) (n:Nat) (f:Nat→Int):tab n (EJ f 0)=tab n (OA bs 0):=IT fun j _=>by
 unfold OA EJ
 rw [if_neg (by omega),if_neg (by omega)]
theorem Abx (bs:List Bk):tab bs.length (OA bs (dlK bs bs.length).length)=tab bs.length (OB bs 0):=IT fun j hj=>by
 unfold OB OA
 by_cases hk:AK bs j=2
 ·rw [if_pos hk,if_pos ⟨hk,OD hj hk⟩]
 ·rw [if_neg hk,if_neg (by omega),if_neg (fun hc=>hk hc.1)]
theorem AiV (h:(cpK bs bs.length)[t]?=some i):OB bs (t+1) i=(bs.length:Int)+((dlK bs bs.length).length:Int)+2*(t:Int):=by
 obtain ⟨_,h2,h3⟩:=Afx.1 h
 unfold OB
 rw [if_neg (by omega),if_pos ⟨h2,by omega⟩,h3]
theorem Afz (h:(cpK bs bs.length)[t]?=some i) (hj:j≠i):OB bs (t+1) j=OB bs t j:=by
 obtain ⟨_,h2,h3⟩:=Afx.1 h
 unfold OB
 by_cases hd:AK bs j=2
 ·rw [if_pos hd,if_pos hd]
 ·rw [if_neg hd,if_neg hd]
  by_cases hk:AK bs j=11
  ·by_cases hr:LH (cpB bs) j<t
   ·rw [if_pos ⟨hk,by omega⟩,if_pos ⟨hk,hr⟩]
   ·have hne:LH (cpB bs) j≠t:=fun e=>hj (ZY (cpB bs) (by simp [cpB,hk]) (by simp [cpB,h2]) (by rw [e,h3]))
    rw [if_neg (fun hc=>by have:=hc.2;omega),if_neg (fun hc=>hr hc.2)]
  ·rw [if_neg (fun hc=>hk hc.1),if_neg (fun hc=>hk hc.1)]
theorem AfA (bs:List Bk):tab bs.length (OB bs (cpK bs bs.length).length)=tab bs.length (AY bs):=IT fun j hj=>by
 unfold OB AY
 by_cases hd:AK bs j=2
 ·rw [if_pos hd,if_pos hd]
 ·rw [if_neg hd,if_neg hd]
  by_cases hk:AK bs j=11
  ·rw [if_pos hk,if_pos ⟨hk,OE hj hk⟩]
  ·rw [if_neg hk,if_neg (fun hc=>hk hc.1)]
theorem WE (f g:Nat→Int) (l:List Nat):(l.flatMap fun j=>[f j,g j]).length=2*l.length:=by
 induction l with
 | nil=>rfl
 | cons x l ih =>
  simp only [List.flatMap_cons,ak,bi,List.length_nil,ih]
  omega
theorem Aby {g:Nat→Int} {l:List Nat} {s:Nat} (h:l[s]?=some i):(l.take (s+1)).flatMap (fun j=>[f j,g j])=(l.take s).flatMap (fun j=>[f j,g j])++[f i,g i]:=by
 rw [aq,h]
 simp
def cdA (ps:List Prt) (bs:List Bk) (F:List Int) (t:Nat):List Ins:=((Bn bs).take t).flatMap (fun j=>Fv ps bs F j (AY bs j))
def cdB (ps:List Prt) (bs:List Bk) (F:List Int) (t:Nat):List Ins:=cdA ps bs F (Bn bs).length++((dlK bs bs.length).take t).map (mv1 bs F)
def cdC (ps:List Prt) (bs:List Bk) (F:List Int) (t:Nat):List Ins:=cdB ps bs F (dlK bs bs.length).length++((dlK bs bs.length).take t).map (mv2 bs)
section
variable {ps:List Prt} {bs:List Bk} {F:List Int} {t j:Nat}
theorem AiW:cdB ps bs F 0=cdA ps bs F (Bn bs).length:=by unfold cdB;rw [gq,fv,ba]
theorem AiX:cdC ps bs F 0=cdB ps bs F (dlK bs bs.length).length:=by unfold cdC;rw [gq,fv,ba]
theorem Yl:cdC ps bs F (dlK bs bs.length).length=Cr ps bs F:=by
 unfold cdC cdB cdA Cr
 rw [au,au,HH]
theorem GW (h:(Bn bs)[t]?=some j):cdA ps bs F (t+1)=cdA ps bs F t++Fv ps bs F j (AY bs j):=Aez h
theorem AiY (h:(dlK bs bs.length)[t]?=some j):cdB ps bs F (t+1)=cdB ps bs F t++[mv1 bs F j]:=by
 unfold cdB
 rw [aq,h]
 simp
theorem AiZ (h:(dlK bs bs.length)[t]?=some j):cdC ps bs F (t+1)=cdC ps bs F t++[mv2 bs j]:=by
 unfold cdC
 rw [aq,h]
 simp
theorem AfB (t:Nat):(cdA ps bs F t).length≤2*t:=lT (Aiu _) (by rw [dj];omega)
theorem AfC (t:Nat):(cdB ps bs F t).length≤2*(Bn bs).length+t:=by
 unfold cdB
 have:=AfB (ps:=ps) (bs:=bs) (F:=F) (Bn bs).length
 rw [ak,af,dj]
 omega
theorem Ym (t:Nat):(cdC ps bs F t).length≤2*(Bn bs).length+(dlK bs bs.length).length+t:=by
 unfold cdC
 have:=AfC (ps:=ps) (bs:=bs) (F:=F) (dlK bs bs.length).length
 rw [ak,af,dj]
 omega
theorem Ip {X:List Ins} {x:Ins} (h:Y=X++[x]):cD (Ay UV X)++[.d (dI x.op),.d (dI x.dst),.d (dI x.a),.d (dI x.b),.d (dI x.sa),.d (dI x.sb),.d (dI x.imm)]=cD (Ay UV Y):=by
 rw [h,EA,←AkA]
 rfl
theorem Aja {X:List Ins} {x y:Ins} (h:Y=X++[x,y]):cD (Ay UV X)++([.d (dI x.op),.d (dI x.dst),.d (dI x.a),.d (dI x.b),.d (dI x.sa),.d (dI x.sb),.d (dI x.imm)]++[.d (dI y.op),.d (dI y.dst),.d (dI y.a),.d (dI y.b),.d (dI y.sa),.d (dI y.sb),.d (dI y.imm)])=cD (Ay UV Y):=by
 rw [h,EA,←AkA]
 rfl
theorem Ir {X:List Ins} {x:Ins} (h:Y=X++[x]):X.length+1=Y.length:=by rw [h,ak];rfl
theorem Ajb {X:List Ins} {x y:Ins} (h:Y=X++[x,y]):X.length+2=Y.length:=by rw [h,ak];rfl
theorem Aon {xs:List Ins} {k:Nat} {y:Ins} (h:xs[k]?=some y):((cD (Ay UV xs)).drop (k*7)).take 7=cD (UV y):=by
 unfold cD
 rw [←List.map_drop,←List.map_take,AjZ h]
end
theorem WF (xs:List Int):∀ d∈xs.map dI,Dh d:=fun d hd=>by obtain ⟨z,_,rfl⟩:=List.mem_map.1 hd;exact .val _
theorem cI_D (xs:List Int):cI xs=cD (xs.map dI):=by simp [cI,cD,dI]
theorem ZZ {t:Bool} {s:Nat} {c:C} {y:D} {ds:List D} (hc:c=.own id n) (hH:H[id]?=some (.row ty s n (cD ds))) (hy:y=.row t s n ds) (hf:t=false→∀ d∈ds,Dh d):FD t H c y:=by
 rw [hc,hy]
 exact .own hH (by simp [cD]) fun j c d h1 h2=>by
  have h3:c=.d d:=by
   simp only [cD,ag,h2,bo,Option.some.injEq] at h1
   exact h1.symm
  rw [h3]
  exact .d fun ht=>hf ht d (gM h2)
theorem Yn {c:C} {y:D} {xs:List Int} (hc:c=.own id n) (hH:H[id]?=some (.row ty 1 n (cI xs))) (hn:n=xs.length) (hy:y=AU false xs):FD false H c y:=by
 subst hn
 exact ZZ hc (by rw [hH,cI_D]) hy fun _ d hd=>by obtain ⟨z,_,rfl⟩:=List.mem_map.1 hd;exact .val _
def flP:List Prt:=[⟨-1,1,0⟩]
def flB:List Bk:=[⟨0,none,[0],0,0,0,0,0⟩,⟨6,none,[3],0,1,-1,0,0⟩,⟨3,none,[0,1],0,0,0,0,0⟩,⟨2,none,[2],0,0,0,0,0⟩]
def flO:List Int:=[2]
theorem AfD:CV prog An 74 [] [aDg false flP flB flO]:=by
 refine cvz func74 ntmps74 ?_
 repeat' (with_reducible first|refine qq ?_|(refine Tx 0 ?_;refine gN (xAl Ss) ?_)|(refine Tx 1 ?_;refine gO (by exact Az rfl Amp rfl rfl) <| gN (by exact Bp rfl BI Ok rfl rfl (by decide) (by decide)) <| gN (by exact Bp rfl Af BV rfl rfl (by decide) (by decide)) <| gN (by exact Bp rfl Af BV rfl rfl (by decide) (by decide)) <| gO (by exact Az rfl PE rfl rfl) <| gN (by exact Bp rfl Af BV rfl rfl (by decide) (by decide)) <| gO (by exact Az rfl QA rfl rfl) <| gO (by exact Az rfl PE rfl rfl) <| gN (by exact Gw rfl Af BV rfl rfl rfl rfl (by decide) (by decide)) <| gO (by exact Az rfl PE rfl rfl) <| gN (by exact Bp rfl Af BV rfl rfl (by decide) (by decide)) <| gO (by exact Az rfl PE rfl rfl) <| gN (by exact Fq rfl rfl Al Cm (by decide) (by decide) (by decide) rfl rfl rfl) <| gO (by exact Az rfl AaN rfl rfl) <| gZ (xSk Cc) ?_))
 exact AH rfl (.cons_ (VQ rfl rfl Cc rfl rfl (by first|((repeat' first|exact BJ rfl rfl|refine AZ rfl rfl ?_ ?_|refine EP rfl rfl ?_|refine CZ rfl rfl ?_|exact Bs rfl (fun _=>Dh.val _)|exact EQ rfl rfl|exact cexp_e rfl rfl|refine Dx rfl rfl rfl ?_) <;> fail)|fail)) .nil_)
theorem AfE {α:Type} {p:α→Bool} {l:List α} {k:Nat} {x:α} (h:l[k]?=some x) (hp:p x=false):l.all p=false:=List.all_eq_false.2 ⟨x,gM h,by rw [hp];exact Bool.false_ne_true⟩
theorem Ajc {t:Bool} {c:C} {y:D} {xs:List Int} (hc:c=.own id n) (hH:H[id]?=some (.row ty 1 n (cI xs))) (hn:n=xs.length) (hy:y=AU t xs):FD t H c y:=by
 subst hn hy
 refine Dx hc hH rfl (Ba.map_l.2 ⟨by simp,fun j a b ha hb=>?_⟩)
 rw [ag,ha] at hb
 cases hb
 exact .d fun _=>.val _
theorem AsN (k:p') (h:Hd9 p'→p:=by with_reducible first|(intro Z9;refine Tx 4 ?_;refine gO xM <| gO (xIr BI (FX hp)) <| gO xL <| gN (xAl Ok) <| gO xA <| gZ (xSk Mk) ?_;exact Z9.o)|(intro Z9;refine Tx 5 ?_;refine gO xA ?_;exact Z9.o)|(intro Z9;refine Tx 6 ?_;refine gO xM <| gO xM <| gO xN <| gO xLt ?_;exact Z9.o)|(intro Z9;refine Tx 8 ?_;refine gO xM <| gO xM <| gO xF <| gO xD <| gO xF <| gO xD <| gO (xCl func208 (BC.cv)) <| gN (by exact Bp rfl Af BV rfl rfl (by decide) (by decide)) <| gT (by exact OZ rfl rfl rfl rfl rfl rfl Af BV (by omega) (by decide) hap hap2) <| gO xA ?_;exact Z9.o)|(intro Z9;refine Tx 9 ?_;refine gO xAd <| gO xM ?_;exact Z9.o)|fail):p:=h ⟨k⟩
theorem AkB (h:p:=by
 refine ⟨_,_,BK 2,_,?_,k+1,by omega,rfl,rfl,rfl⟩
 ·omega):p:=h
theorem AfF (t u:Bool) {ps:List Prt} {bs:List Bk} {os:List Int} (inn:List Int) (hl:Fa ps bs os) (h2:inn.length≤1000000):CV prog An 114 [aDg t ps bs os,.one (AU u inn)] [.one (AU false (ME ps inn ps.length))]:=by
 refine cvz func114 ntmps114 ?_
 have hl1:=hl.l1
 repeat' (with_reducible first|refine qq ?_|(refine Tx 0 ?_;refine gN xBo <| gO xA ?_)|(refine Tx 1 ?_;refine gO xA ?_)|(refine Tx 2 ?_;refine gO xF <| gO xD <| gO xN <| gO xM ?_))
 refine Bj (MS 5 3 1 rfl) ?_
 refine Bj (BK 2) (Av (fun n Fr H=>∃ k:Nat,k≤ps.length∧n=ps.length - k∧Fr=ofL [(1,vd (AU u inn)),(2,vr 0),(5,vo 1 ((ME ps inn k).length)),(10,vd (Di t ps)),(11,vi ps.length),(12,vi ((k:Nat)))]∧H=[.box 26 [.d (Di t ps),.d (DK t bs),.d (AU t os)],.row 3 1 (ME ps inn (k)).length (cI (ME ps inn (k)))]) (n0:=ps.length) ⟨0,ad _,rfl,rfl,rfl⟩ ?_)
 rintro n Fr H ⟨k,hk,rfl,rfl,rfl⟩
 by_cases hlt:k<ps.length
 case pos =>
  obtain ⟨p,hp⟩:∃ p,ps[k]?=some p:=⟨_,gE hlt⟩
  have hol:(ME ps inn (k)).length≤k:=AiH _ _ _
  by_cases hki:k<inn.length
  case pos =>
   obtain ⟨z,hz⟩:∃ z,inn[k]?=some z:=⟨_,gE hki⟩
   have hap:(ME ps inn (k))++[Tv z p.lo p.hi]=(ME ps inn (k+1)):=(Wm hp (by rw [hz];rfl)).symm
   have hap2:(ME ps inn (k)).length+1=(ME ps inn (k+1)).length:=by rw [←hap];simp
   have BC:=ZL z p.lo p.hi
   repeat' (with_reducible first|refine qq ?_|(refine Tx 3 ?_;refine gO xLt ?_)|refine AsN ?_|(refine Tx 7 ?_;refine gO xM <| gO xM <| gO (xIr Af (AG hz)) <| gO xD <| gO xA ?_))
   exact AkB
  case neg =>
   have hap:(ME ps inn (k))++[Tv 0 p.lo p.hi]=(ME ps inn (k+1)):=(Wm hp (by rw [dq (by omega)];rfl)).symm
   have hap2:(ME ps inn (k)).length+1=(ME ps inn (k+1)).length:=by rw [←hap];simp
   have BC:=ZL 0 p.lo p.hi
   repeat' (with_reducible first|refine qq ?_|(refine Tx 3 ?_;refine gO xLt ?_)|refine AsN ?_)
   exact AkB
 obtain rfl:k=ps.length:=by omega
 clear hlt hk
 repeat' (with_reducible first|refine qq ?_|(refine Tx 3 ?_;refine gO xLt ?_)|(refine Tx 10 ?_;refine gO xM <| gO xA ?_))
 exact AH rfl (.cons_ (.tmp (.one (Ajc rfl rfl rfl rfl))) .nil_)
theorem AkC (he:AO ps bs os=0) (l:List Int):Wc ps (ME ps l ps.length)=true:=by
 refine List.all_eq_true.2 fun i hi=>?_
 have hil:=List.mem_range.1 hi
 rw [Yg] at hil
 obtain ⟨p,hp⟩:∃ p,ps[i]?=some p:=⟨_,gE hil⟩
 have hz:(ME ps l ps.length)[i]?=some (Tv (l[i]?.getD 0) p.lo p.hi):=by
  unfold ME
  rw [ag,gy hil,bo,hp]
  rfl
 unfold ApB
 rw [hp,hz]
 have hpp:=Nk he hp
 have h3 : -2147483648≤p.lo∧p.lo≤p.hi∧p.hi<2147483648∧0≤p.fr∧p.fr≤30:=bw fun hn=>by unfold Gj at hpp;rw [if_neg hn] at hpp;cases hpp
 refine decide_eq_true ?_
 unfold Tv
 omega
theorem Ajd (he:AO ps bs os=0) {st:List (Int × Nat)} (l:List Int):Mo ps bs st (ME ps l ps.length)=if DZ ps bs st (ME ps l ps.length)=true then 4 else 0:=by
 unfold Mo
 rw [if_neg (not_not_intro (Yg ps l)),if_neg (by rw [AkC he l];decide)]
theorem AfG (he:AO ps bs os=0) {st:List (Int × Nat)} {l:List Int} (h:Mo ps bs st (ME ps l ps.length)≠0):Mo ps bs st (ME ps l ps.length)=4:=by
 rw [Ajd he] at h ⊢
 split
 ·rfl
 ·rename_i hn;rw [if_neg hn] at h;exact absurd rfl h
theorem Aje (h:y.kind≠0) {k:Nat} {a:Int} (ha:y.args[k]?=some a) {p:Int × Nat} (hp:V[a.toNat]?=some p):(DU V y)[k]?=some p:=by
 unfold DU
 rw [if_neg h,ag,ha,bo,hp]
 rfl
theorem AfH (h:y.kind≠0):(DU V y).length=y.args.length:=by unfold DU;rw [if_neg h,af]
theorem Ajf {d:Nat} (h:∀ p∈V,Sm p n d):∀ p∈DU V y,Sm p n d:=fun p hp=>by
 unfold DU at hp
 split at hp
 ·cases hp
 ·obtain ⟨a,_,rfl⟩:=List.mem_map.1 hp
  exact CY h _
theorem AfI (h0:AO ps bs os=0) (hl:Fa ps bs os) (rd:Int) (r1:rd≤16):∃ (f:Nat) (e:Int) (l:List Iq),f≤1000000000∧Tf ps bs rd f=some (e,l)∧((e=0∧WA bs l∧Eg ps bs l=false∧Abt ps bs l=true)∨((e=4∨e=22)∧l=[])):=by
 have hdb:=Mp bs
 have hl2:=hl.l2
 refine ⟨300000000,?_⟩
 unfold Tf
 by_cases hf:(DB bs).any RX=true
 ·exact ⟨22,[],by decide,by rw [if_pos hf],.inr ⟨.inr rfl,rfl⟩⟩
 ·rw [if_neg hf]
  rw [bc] at hf
  have hI:=Te h0 hf
  obtain ⟨⟨e,l⟩,hr⟩:=Td (rd:=rd) h0 20 300000000 1 (DB bs) hI (by omega) (by omega)
  exact ⟨e,l,by decide,hr,ZX h0 _ _ _ _ _ hI hr⟩
section
variable {ps:List Prt} {bs:List Bk} {os:List Int} {st:List Iq}
def Dm (V:List Iq) (y:Bk):List Iq:=if y.kind=0 then [] else y.args.map fun a=>V[a.toNat]?.getD iZ
theorem AfJ {V:List Iq} (h:y.kind≠0):(Dm V y).length=y.args.length:=by unfold Dm;rw [if_neg h,af]
theorem CJ {V:List Iq} (h:y.kind≠0) {k:Nat} {a:Int} (ha:y.args[k]?=some a) {p:Iq} (hp:V[a.toNat]?=some p):(Dm V y)[k]?=some p:=by
 unfold Dm
 rw [if_neg h,ag,ha,bo,hp]
 rfl
theorem Ea {V:List Iq} (hV:∀ p∈V,IwS p LB LB):∀ p∈Dm V y,IwS p LB LB:=fun p hp=>by
 unfold Dm at hp
 split at hp
 ·cases hp
 ·obtain ⟨a,_,rfl⟩:=List.mem_map.1 hp
  exact Bx hV _
theorem AfK (he:AO ps bs os=0) (hs:∀ p∈st,IwS p LB LB) (hl:st.length=(AI bs).length) (hb:Eg ps bs st=false):∀ p∈rgV ps bs st,IwS p LB LB:=fun p hp=>by
 obtain ⟨i,hi⟩:=List.mem_iff_getElem?.1 hp
 have hil:=(gS.1 hi).1
 rw [Rf] at hil
 obtain ⟨q,hq,_,hs⟩:=Afn he hs hl hb hil
 rw [hi] at hq
 cases hq
 exact hs
end
structure Ct where
 F:List Int
 R:List Iq
 E:List Pq
def dCt (u:Bool) (c:Ct):List D:=[AU u c.F,.row false 6 c.R.length (Ay (dIw false) c.R),.row false 3 c.E.length (Ay dyP c.E)]
def rowE (E:List Pq):D:=.row false 3 E.length (Ay dyP E)
abbrev eG (E:List Pq) (a:Int):Pq:=E[a.toNat]?.getD (0,0)
abbrev rG (R:List Iq) (a:Int):Iq:=R[a.toNat]?.getD iZ
abbrev sG (F:List Int) (a:Int):Int:=scA F a.toNat
def inK (k:Int):Bool:=decide (-62≤k∧k≤30)
def frB (f:Int):Bool:=decide (0≤f∧f≤30)
def rwB (n e f:Int):Bool:=decide (BX n e f=0)
def RC (ps:List Prt) (F:List Int) (y:Bk) (s:Int):Bool :=
 if y.kind=0 then inK (s - Ga ps (Bi y))
 else if y.kind=1 then rwB y.vn y.ve s
 else if y.kind=6 then inK (s - sG F (Bi y)+y.ve)
 else if y.kind=7 then inK (s - sG F (Bi y) - sG F (Dk y))
 else if y.kind=2 then inK (s - sG F (Bi y)) && rwB y.vn y.ve s
 else if y.kind=11 then inK (s - sG F (Bi y)) && rwB y.vn y.ve s && rwB y.un y.ue s
 else y.args.all fun a=>inK (s - sG F a)
def Eb (ps:List Prt) (F:List Int) (y:Bk) (i:Nat):Bool :=
 frB (scA F i) && ((decide (y.kind=0) || y.args.all fun a=>frB (sG F a)) && RC ps F y (scA F i))
def LL (ps:List Prt) (R:List Iq) (y:Bk):Iq :=
 if y.kind=2 then Lo (Ac y.vn 0 y.ve,Ac y.vn 0 y.ve) (rG R (Bi y)) else BH y (Dm R y) ps
def Dd (ps:List Prt) (R:List Iq) (y:Bk) (i:Nat):Bool:=iIn (LL ps R y) (R[i]?.getD iZ)
def BS (n e f:Int):Bool:=decide ((ES (Ac n 0 e) f).2=0)
def ixP (b:Bool) (s:Int):Pq:=if b=true then pw (-s) else (0,0)
def mvP (F:List Int) (E:List Pq) (s a:Int):Pq:=if sG F a≤s then eG E a else Du (eG E a) (pw (-s))
def AM (ps:List Prt) (F:List Int) (R:List Iq) (E:List Pq) (y:Bk) (s:Int):Pq :=
 if y.kind=0 then ixP (decide (s<Ga ps (Bi y))) s
 else if y.kind=1 then ixP (!BS y.vn y.ve s) s
 else if y.kind=3∨y.kind=4 then Du (mvP F E s (Bi y)) (mvP F E s (Dk y))
 else if y.kind=5∨y.kind=10 then mvP F E s (Bi y)
 else if y.kind=8∨y.kind=9 then Fw (mvP F E s (Bi y)) (mvP F E s (Dk y))
 else if y.kind=6 then Du (BR (Ha (Ac y.vn 0 y.ve)) (eG E (Bi y))) (ixP (decide (s - sG F (Bi y)+y.ve<0)) s)
 else if y.kind=7 then Du (Du (Du (BR (DA (rG R (Bi y))) (eG E (Dk y))) (BR (DA (rG R (Dk y))) (eG E (Bi y)))) (BR (eG E (Bi y)) (eG E (Dk y)))) (ixP (decide (s - sG F (Bi y) - sG F (Dk y)<0)) s)
 else if y.kind=11 then Fw (mvP F E s (Bi y)) (ixP (!BS y.vn y.ve s || !BS y.un y.ue s) s)
 else Fw (mvP F E s (Bi y)) (ixP (!BS y.vn y.ve s) s)
def LM (x:Pq) (f:Int):Bool:=decide (Nt (ES x f) (2147483647,0)≤0)
def Ajg (F:List Int) (R:List Iq) (E:List Pq) (y:Bk) (i:Nat):Bool :=
 LM (Du (DA (R[i]?.getD iZ)) (E[i]?.getD (0,0))) (scA F i) && (!decide (y.kind=11) || LM (Du (rG R (Bi y)).2 (eG E (Bi y))) (scA F i))
def Pw (ps:List Prt) (bs:List Bk) (c:Ct) (i:Nat):Int :=
 let y:=PQ bs i
 if Eb ps c.F y i=false then 1 else if Dd ps c.R y i=false then 2
 else if Nt (c.E[i]?.getD (0,0)) (AM ps c.F c.R c.E y (scA c.F i))<0 then 3 else if Ajg c.F c.R c.E y i=false then 4 else 0
def upQ (x:Pq):Pq:=AiD x 62
def Ahg (x:Pq):Bool:=decide (0<Nt x (1099511627776,0))
structure Aum (bs:List Bk) (c:Ct):Prop where
 lF:c.F.length=bs.length
 lR:c.R.length=bs.length
 lE:c.E.length=bs.length
 sR:∀ p∈c.R,IwS p LB LB
 sE:∀ p∈c.E,Sm p LB LB
 nE:∀ p∈c.E,0≤gv p
theorem Eo {d:Nat} (h:∀ p∈E,Sm p n d) (a:Int):Sm (eG E a) n d:=CY h _
theorem UH {d:Nat} (h:∀ p∈R,IwS p n d) (a:Int):IwS (rG R a) n d:=Bx h _
theorem WG (h0:0≤s) (h1:s≤30):Sm (pw (-s)) 31 30:=Yh (n:=30) (by omega) (by omega) (by decide)
theorem AsO (h0:0≤s) (h1:s≤30):gv (pw (-s))=2 ^ (65536 - s.toNat):=by rw [Pv (by omega) (by omega)];congr 1;omega
theorem OG {b:Bool} (h0:0≤s) (h1:s≤30):Sm (ixP b s) 31 30:=by
 unfold ixP
 split
 ·exact WG h0 h1
 ·exact Sm.zero _ _
theorem GX (h0:0≤s) (h1:s≤30) (hE:∀ p∈E,Sm p LB LB) (a:Int):Sm (mvP F E s a) 8200 LB:=by
 unfold mvP
 split
 ·exact (Eo hE a).more (by decide) (by decide)
 ·exact (Sm.sum (Eo hE a) ((WG h0 h1).more (n':=LB) (d':=LB) (by decide) (by decide)) (by decide)).more (by decide) (by decide)
theorem It {p:Pq} {d:Nat} (h:Sm p n d) {f:Int} (f0:0≤f) (f1:f≤30):Sm (ES p f) (n+30) d:=by
 show Sm (Ac p.1 p.2 f) (n+30) d
 unfold Ac
 rw [show max (-65536) (min f 65536)=f by omega,if_neg (by omega)]
 refine Sm.mk_nf h.d h.ok.le ?_
 rw [fq,fu,show Int.natAbs 2=2 from rfl,bj]
 have h1:2 ^ f.toNat≤2 ^ 30:=av (by decide) (by omega)
 have h2:(0:Nat)<2 ^ f.toNat:=bu _
 exact am (jx h.n h2) (ic _ h1)
theorem Pg {d:Nat} (h:IwS a n d):Sm (DA a) n d:=h.abs.s2
theorem UI (h0:0≤s) (h1:s≤30) (hR:∀ p∈R,IwS p LB LB) (hE:∀ p∈E,Sm p LB LB) (hv:y.kind=6→Dn y.vn y.ve):Sm (AM ps F R E y s) 40064 9000:=by
 have ix:∀ b,Sm (ixP b s) 16000 8192:=fun b=>(OG h0 h1).more (by decide) (by decide)
 have mv:∀ a,Sm (mvP F E s a) 8200 LB:=GX h0 h1 hE
 unfold AM
 split
 ·exact (ix _).more (by decide) (by decide)
 split
 ·exact (ix _).more (by decide) (by decide)
 split
 ·exact (Sm.sum (mv _) (mv _) (by decide)).more (by decide) (by decide)
 split
 ·exact (mv _).more (by decide) (by decide)
 split
 ·exact (Sm.max (mv _) (mv _)).more (by decide) (by decide)
 split
 ·next h=>exact (Sm.sum ((Sm.mul (Ef (hv h)).abs (Eo hE _) (by decide)).more (n':=16000) (d':=8192) (by decide) (by decide)) (ix _) (by decide)).more (by decide) (by decide)
 split
 ·have m1:∀ a b,Sm (BR (DA (rG R a)) (eG E b)) 8192 8192:=fun a b=>Sm.mul (Pg (UH hR a)) (Eo hE b) (by decide)
  have m2:∀ a b,Sm (BR (eG E a) (eG E b)) 8192 8192:=fun a b=>Sm.mul (Eo hE a) (Eo hE b) (by decide)
  have s1:=Sm.sum (m1 (Bi y) (Dk y)) (m1 (Dk y) (Bi y)) (by decide)
  have s2:=Sm.sum s1 ((m2 (Bi y) (Dk y)).more (n':=16385) (d':=8192) (by decide) (by decide)) (by decide)
  exact (Sm.sum s2 ((OG h0 h1).more (n':=24578) (d':=8192) (by decide) (by decide)) (by decide)).more (by decide) (by decide)
 split
 ·exact (Sm.max (mv _) ((OG h0 h1).more (by decide) (by decide))).more (by decide) (by decide)
 ·exact (Sm.max (mv _) ((OG h0 h1).more (by decide) (by decide))).more (by decide) (by decide)
theorem AsP {x:Pq} (h:x.2≤GQ):gv x≤gv (upQ x)∧gv (upQ x)<gv x+2 ^ (GQ - 62)∧∃ k:Int,gv (upQ x)=k*2 ^ (GQ - 62):=by
 obtain ⟨a,b,k,c⟩:=Ur (p:=(-x.1,x.2)) (den:=62) h (by decide)
 have e:gv (upQ x) = -gv (Cl (-x.1) x.2 62):=EE _
 have f:gv (-x.1,x.2) = -gv x:=EE x
 dsimp only at a b c
 rw [f] at a b
 rw [e]
 generalize gv (Cl (-x.1) x.2 62)=w at *
 refine ⟨by omega,by omega,-k,?_⟩
 rw [c,cz]
section
variable {P:Program} {G:World→Prop} {o:Oper} {F:Frm} {H:List Ob}
theorem AsQ {f:FuncId} (ho:o.op=.assign (.func f)):Bd P G o F H (.one (.clo (.func f) [])) []:=Cb fun b0 m a _ _ hor=>by
 refine ⟨.func (.func f) #[] #[],?_,[],rfl,Ba.nil_⟩
 unfold execOp
 simp [ho,Act.eval]
end
theorem Xg {k:Nat} (h:k<R.length):R[k]?=some (R[k]?.getD iZ):=by rw [gE h];rfl
theorem eg_c {k:Nat} (h:k<E.length):E[k]?=some (E[k]?.getD (0,0)):=by rw [gE h];rfl
theorem Xh {k:Nat} (h:k<F.length):F[k]?=some (scA F k):=by unfold scA;rw [gE h];rfl
structure ApD (ps:List Prt) (n:Nat) (y:Bk):Prop where
 hk:y.kind=0∨y.kind=1∨y.kind=2∨y.kind=3∨y.kind=4∨y.kind=5∨y.kind=6∨y.kind=7∨y.kind=8∨y.kind=9∨y.kind=10∨y.kind=11
 a0:y.kind≠1→∃ a:Nat,y.args[0]?=some (a:Int)∧Bi y=(a:Int)∧(y.kind≠0→a<n)
 a1:(y.kind=3∨y.kind=4∨y.kind=7∨y.kind=8∨y.kind=9)→∃ a:Nat,y.args[1]?=some (a:Int)∧Dk y=(a:Int)∧a<n
 all:y.kind≠0→∀ a∈y.args,0≤a∧a<(n:Int)
 len:y.args.length≤2
 port:y.kind=0→∃ (i:Nat) (p:Prt),y.args[0]?=some (i:Int)∧Bi y=(i:Int)∧ps[i]?=some p∧RR p
 sv:(y.kind=1∨y.kind=2∨y.kind=6∨y.kind=11)→Dn y.vn y.ve
 su:y.kind=11→Dn y.un y.ue
 cl:y.kind=11→Nt (Ac y.vn 0 y.ve) (Ac y.un 0 y.ue)≤0
theorem Aoo (he:AO ps bs os=0) {i:Nat} {y:Bk} (hy:bs[i]?=some y):ApD ps bs.length y:=by
 have hac:=Co he hy
 have hcg:=hac.1
 have hck:=hac.2.1
 have hlen:y.args.length≤2:=by unfold Bc at hcg hck;(repeat' split at hck) <;> omega
 refine ⟨Np he hy,fun h1=>?_,fun h2=>?_,fun h0 a ha=>?_,hlen,fun h0=>?_,fun h=>?_,fun h=>(GU he hy h).2.1,fun h=>(GU he hy h).2.2⟩
 ·have hl:1≤y.args.length:=by unfold Bc at hcg hck;(repeat' split at hck) <;> omega
  obtain ⟨a,ha⟩:∃ a,y.args[0]?=some a:=⟨_,gE (by omega)⟩
  have hb:=hac.2.2 a (gM ha)
  refine ⟨a.toNat,by rw [ha];congr 1;omega,by unfold Bi;rw [ha];show a=_;omega,fun h0=>?_⟩
  rw [show Cy ps.length bs.length y.kind=bs.length from if_neg h0] at hb
  omega
 ·have hl:2≤y.args.length:=by unfold Bc at hcg hck;(repeat' split at hck) <;> omega
  obtain ⟨a,ha⟩:∃ a,y.args[1]?=some a:=⟨_,gE (by omega)⟩
  have hb:=hac.2.2 a (gM ha)
  rw [show Cy ps.length bs.length y.kind=bs.length from if_neg (by omega)] at hb
  exact ⟨a.toNat,by rw [ha];congr 1;omega,by unfold Dk;rw [ha];show a=_;omega,by omega⟩
 ·have hb:=hac.2.2 a ha
  rwa [show Cy ps.length bs.length y.kind=bs.length from if_neg h0] at hb
 ·have hl:y.args.length=1:=by rw [h0] at hck;simp [Bc] at hck;omega
  obtain ⟨a,ha⟩:∃ a,y.args[0]?=some a:=⟨_,gE (by omega)⟩
  have hb:=hac.2.2 a (gM ha)
  rw [show Cy ps.length bs.length y.kind=ps.length from if_pos h0] at hb
  obtain ⟨p,hp⟩:∃ p,ps[a.toNat]?=some p:=⟨_,gE (by omega)⟩
  exact ⟨a.toNat,p,by rw [ha];congr 1;omega,by unfold Bi;rw [ha];show a=_;omega,hp,Rb he hp⟩
 ·exact HW he hy (by unfold Sv;rcases h with h|h|h|h <;> rw [h] <;> rfl)
theorem AfL {p:Prt} (h:ps[i]?=some p):Ga ps (i:Int)=p.fr:=by unfold Ga;rw [ao,h];rfl
theorem Ri (s:Int) (s0:0≤s) (s1:s≤62):CV prog An 218 [aI s] [aDy false (pw (-s)).1 (pw (-s)).2]:=by
 refine cvz func218 ntmps218 ?_
 have OF:=Ft 1 (by decide) (by decide)
 have SH:=BE 1 0 (-s) ⟨by decide,fun h=>absurd rfl h⟩ (lT (AJ (k:=2) (by decide)) (by decide)) (by omega)
 repeat' (with_reducible first|refine qq ?_|(refine Tx 0 ?_;refine gN (xAl Ao) ?_)|(refine Tx 1 ?_;refine gO (xCl func68 (OF)) <| gO xM <| gO Abs <| gO (xCl func21 (SH)) <| gZ (xSk Ad) ?_))
 exact Tb
theorem GY (n e:Int) (hs:Dn n e):CV prog An 219 [.agg [dI n,dI e]] [aDy false (Ac n 0 e).1 (Ac n 0 e).2]:=by
 refine cvz func219 ntmps219 ?_
 have VA:=Uk n e
 exact Aku
theorem AsR (k:p') (h:Hd9 p'→p:=by with_reducible first|(intro Z9;refine qq ?_;exact Z9.o)|(intro Z9;refine Tx 0 ?_;refine gN xBo <| gO xA ?_;exact Z9.o)|(intro Z9;refine Tx 1 ?_;refine gO xL <| gO (xCl func219 (RV)) <| gO xM <| gO (xCl func21 (SH)) <| gN (xAl Ao) <| gZ (xSk Ad) ?_;exact Z9.o)|(intro Z9;refine Tx 2 ?_;refine gO xF <| gO xD <| gO xEq <| gO xA ?_;exact Z9.o)|fail):p:=h ⟨k⟩
theorem La (n e f:Int) (hs:Dn n e) (f0:0≤f) (f1:f≤30):CV prog An 222 [.agg [dI n,dI e],aI f] [aB (BS n e f)]:=by
 refine cvz func222 ntmps222 ?_
 have RV:=GY n e hs
 have sm:=Ef hs
 have SH:=BE (Ac n 0 e).1 (Ac n 0 e).2 f sm.ok sm.lz (by have:=sm.ok.1;omega)
 obtain ⟨q,hq⟩:∃ q,Ac (Ac n 0 e).1 (Ac n 0 e).2 f=q:=⟨_,rfl⟩
 rw [hq] at SH
 rw [show BS n e f=decide (q.2=0) by unfold BS;rw [←hq]]
 by_cases h0:q.2=0
 case pos =>
  repeat' (with_reducible first|refine AsR ?_)
  exact AH rfl (.cons_ (Fi rfl ((decide_eq_true h0).symm)) .nil_)
 repeat' (with_reducible first|refine AsR ?_)
 exact AH rfl (.cons_ (Fi rfl ((decide_eq_false h0).symm)) .nil_)
theorem Aop (k:p') (h:Hd9 p'→p:=by with_reducible first|(intro Z9;refine qq ?_;exact Z9.o)|(intro Z9;refine Tx 0 ?_;refine gO xA ?_;exact Z9.o)|(intro Z9;refine Tx 1 ?_;refine gO xM <| gO xGe <| gO xM ?_;(first|iterate 2 refine Jd ?_|(refine Jy xM1 ?_;refine Jy xLe ?_));refine gO xPk <| gO xA ?_;exact Z9.o)|fail):p:=h ⟨k⟩
theorem OH (k:Int):CV prog An 215 [aI k] [aB (inK k)]:=by
 refine cvz func215 ntmps215 ?_
 by_cases cf7:k < -62
 case pos =>
  repeat' (with_reducible first|refine Aop ?_)
  exact AH rfl (.cons_ (Fi rfl ((decide_eq_false (by omega)).symm)) .nil_)
 by_cases cf6:30<k
 case pos =>
  repeat' (with_reducible first|refine Aop ?_)
  exact AH rfl (.cons_ (Fi rfl ((decide_eq_false (by omega)).symm)) .nil_)
 repeat' (with_reducible first|refine Aop ?_)
 exact AH rfl (.cons_ (Fi rfl ((decide_eq_true (by omega)).symm)) .nil_)
theorem Qc (n e f:Int):CV prog An 216 [.agg [dI n,dI e],.one (.ptr true [dI f])] [aB (rwB n e f)]:=by
 refine cvz func216 ntmps216 ?_
 have RA:=(WD n e f).cv
 unfold rwB
 by_cases h0:BX n e f=0
 case pos =>
  rw [h0] at RA
  repeat' (with_reducible first|refine qq ?_|(refine Tx 0 ?_;refine gN xBo <| gO xA ?_)|(refine Tx 1 ?_;refine gO xL <| gO xD <| gO (xCl func117 (RA)) <| gO xMt <| gO xEx <| gO xEx <| gO xA <| gO xA ?_)|(refine Tx 2 ?_;refine gO xM <| gO (by first|exact Dw rfl Ai rfl (RH rfl)|exact Dw rfl Ai rfl (RH (by first|rfl|omega))|exact Dw rfl Ai rfl (Vz (by first|assumption|omega))|exact Dw rfl Ai rfl rfl) <| gO xA ?_))
  exact AH rfl (.cons_ (Fi rfl ((decide_eq_true h0).symm)) .nil_)
 repeat' (with_reducible first|refine qq ?_|(refine Tx 0 ?_;refine gN xBo <| gO xA ?_)|(refine Tx 1 ?_;refine gO xL <| gO xD <| gO (xCl func117 (RA)) <| gO xMt <| gO xEx <| gO xEx <| gO xA <| gO xA ?_)|(refine Tx 2 ?_;refine gO xM <| gO (by first|exact Dw rfl Ai rfl (Vz h0)|exact Dw rfl Ai rfl (RH (by first|rfl|omega))|exact Dw rfl Ai rfl (Vz (by first|assumption|omega))|exact Dw rfl Ai rfl rfl) <| gO xA ?_))
 exact AH rfl (.cons_ (Fi rfl ((decide_eq_false h0).symm)) .nil_)
theorem Aoq (k:p') (h:Hd9 p'→p:=by with_reducible first|(intro Z9;refine qq ?_;exact Z9.o)|(intro Z9;refine Tx 0 ?_;refine gO xA ?_;exact Z9.o)|(intro Z9;refine Tx 1 ?_;refine gO xF <| gO xD <| gO xM <| gO (xIr Af (AG hF)) <| gO xD <| gO xLt <| gO xM ?_;(first|iterate 6 refine Jd ?_|(refine Jy (xFa TK Bm) ?_;refine Jy (xLd Bm) ?_;refine Jy xM1 ?_;refine Jy (xIr Af (AG hF)) ?_;refine Jy (xLd Ar) ?_;refine Jy xGt ?_));refine gO xPk <| gO xA ?_;exact Z9.o)|fail):p:=h ⟨k⟩
theorem Ajh (u:Bool) (c:Ct) (a:Int) {k:Nat} (a0:0≤a) (hk:k=a.toNat) (h:k<c.F.length) (hl:c.F.length≤1000000):CV prog An 214 [aI a,.one (.ptr true (dCt u c))] [aB (!frB (scA c.F a.toNat))]:=by
 refine cvz func214 ntmps214 ?_
 have hF:=Xh h
 obtain rfl:k=a.toNat:=hk
 have ha:((a.toNat:Nat):Int)=a:=by omega
 rw [←ha]
 rw [ao]
 generalize a.toNat=j at *
 unfold frB
 generalize scA c.F j=z at *
 by_cases c5:z<0
 case pos =>
  repeat' (with_reducible first|refine Aoq ?_)
  exact AH rfl (.cons_ (Fi rfl (by rw [decide_eq_false (by omega)];rfl)) .nil_)
 by_cases c6:30<z
 case pos =>
  repeat' (with_reducible first|refine Aoq ?_)
  exact AH rfl (.cons_ (Fi rfl (by rw [decide_eq_false (by omega)];rfl)) .nil_)
 repeat' (with_reducible first|refine Aoq ?_)
 exact AH rfl (.cons_ (Fi rfl (by rw [decide_eq_true (by omega)];rfl)) .nil_)
theorem OI (k:p') (h:Hd9 p'→p:=by with_reducible first|(intro Z9;refine Tx 0 ?_;refine gN xBo <| gN xBo <| gO xA ?_;exact Z9.o)|(intro Z9;refine Tx 2 ?_;refine gO xD <| gO xLt <| gO xM ?_;(first|iterate 2 refine Jd ?_|(refine Jy (xLd Ar) ?_;refine Jy xGt ?_));refine gO xPk ?_;exact Z9.o)|fail):p:=h ⟨k⟩
theorem Aor (h:p:=by first|exact xS1 Ar|exact xSk Ar):p:=h
theorem Th (k:p') (h:Hd9 p'→p:=by with_reducible first|(intro Z9;refine Tx 1 ?_;refine gO xF <| gO xD <| gO xM <| gO (xIr Af (AG hFi)) <| gO xD <| gN (xAl BV) <| gZ Aor ?_;exact Z9.o)|fail):p:=h ⟨k⟩
theorem Iu (k:p') (h:Hd9 p'→p:=by with_reducible first|(intro Z9;refine Tx 4 ?_;refine gO xF <| gO xD <| gO xM <| gO (xIr Al (Fb hy)) <| gO xL <| gN (xAl Cm) <| gZ (xSk BW) ?_;exact Z9.o)|fail):p:=h ⟨k⟩
theorem LO (k:p') (h:Hd9 p'→p:=by with_reducible first|(intro Z9;refine Tx 7 ?_;refine gO (by first|exact AsQ rfl|exact Zg rfl rfl) ?_;exact Z9.o)|(intro Z9;refine Tx 8 ?_;refine gO (by first|exact xMf [(2,0,none)]|exact CS rfl (by repeat' first|exact BJ rfl rfl|refine AZ rfl rfl rfl ?_)) <| gO xA ?_;exact Z9.o)|(intro Z9;refine Tx 9 ?_;refine gO xF <| gO xD ?_;exact Z9.o)|(intro Z9;refine Tx 10 ?_;refine gO xEq <| gO xA ?_;exact Z9.o)|fail):p:=h ⟨k⟩
theorem LP (k:p') (h:Hd9 p'→p:=by with_reducible first|(intro Z9;refine Tx 5 ?_;refine gO xF <| gO xD <| gO xNe <| gO xM ?_;(first|iterate 4 refine Jd ?_|(refine Jy (xFa Fo Bm) ?_;refine Jy (xLd Bm) ?_;refine Jy (by first|exact xMf [(1,0,none)]|exact CS rfl (by repeat' first|exact BJ rfl rfl|refine AZ rfl rfl rfl ?_)) ?_;refine Jy (by exact AiA RL func213 CTN HC) ?_));refine gO xPk ?_;exact Z9.o)|fail):p:=h ⟨k⟩
theorem Aji (h:p:=by first|exact xIr Af (AG hFi)|exact xIr Af (AG hF0)):p:=h
theorem Tj (k:p') (h:Hd9 p'→p:=by with_reducible first|(intro Z9;refine Tx 1 ?_;refine gO xF <| gO xD <| gO xM <| gO Aji <| gO xD <| gN (xAl BV) <| gZ Aor ?_;exact Z9.o)|fail):p:=h ⟨k⟩
theorem AkD (k:p') (h:Hd9 p'→p:=by with_reducible first|(intro Z9;refine BU (id:=19) AN (by kernel_rfl) ?_;refine gP xM <| gP xD <| gP xF <| gP xD <| gP xF <| gP xD <| gP (xIr Af (AG hA0)) <| gP xD <| gP Aji <| gP xD <| gP xSb <| gP (xCc func215 SHC (args:=[_]) rfl) <| gP xM ?_;(first|iterate 4 refine Kd ?_|(refine Ky xM1 ?_;refine Ky (xFa Hr BP) ?_;refine Ky (xLa BP) ?_;refine Ky (xCc func216 (Qc y.vn y.ve s) (args:=[_]) rfl) ?_));refine gP xPk <| gP xA ?_;refine Ke ?_;exact Z9.o)|fail):p:=h ⟨k⟩
theorem AfM (k:p') (h:Hd9 p'→p:=by with_reducible first|(intro Z9;refine BU (id:=21) AN (by kernel_rfl) ?_;refine gP xM <| gP xD <| gP xF <| gP xD <| gP xF <| gP xD <| gP (xIr Af (AG hA0)) <| gP xD <| gP Aji <| gP xD <| gP xSb <| gP (xCc func215 SHC (args:=[_]) rfl) <| gP xM ?_;(first|iterate 4 refine Kd ?_|(refine Ky xM1 ?_;refine Ky (xFa Hr BP) ?_;refine Ky (xLa BP) ?_;refine Ky (xCc func216 RWC (args:=[_]) rfl) ?_));refine gP xPk <| gP xM ?_;(first|iterate 4 refine Kd ?_|(refine Ky xM1 ?_;refine Ky (xFa Ht BP) ?_;refine Ky (xLa BP) ?_;refine Ky (xCc func216 (Qc y.un y.ue s) (args:=[_]) rfl) ?_));refine gP xPk <| gP xA ?_;refine Ke ?_;exact Z9.o)|fail):p:=h ⟨k⟩
theorem AsS (h:p:=by first|exact xIr Af (AG hz)|exact xIr Af (AG hFm)):p:=h
theorem AkE (k:p') (h:Hd9 p'→p:=by with_reducible first|(intro Z9;refine Tx 24 ?_;refine gO AsS <| gO xD <| gO xA ?_;exact Z9.o)|(intro Z9;refine BU (id:=25) AN (by kernel_rfl) ?_;refine gP xM <| gP xD <| gP xF <| gP xD <| gP xM <| gP AsS <| gP xD <| gP xSb <| gP (xCc func215 SHC (args:=[_]) rfl) <| gP Abs ?_;refine Ke ?_;exact Z9.o)|fail):p:=h ⟨k⟩
theorem Ec (h:p:=by
 exact AH rfl (.cons_ (Fi rfl (rfl)) .nil_)):p:=h
theorem Aos (h:p:=by first|exact xIr Af (AG hFi)|exact xIr Af (AG hF0)|exact xIr Af (AG hF1)):p:=h
theorem Yo (t u:Bool) {ps:List Prt} {bs:List Bk} (os:List Int) (c:Ct) (i:Nat) {y:Bk} (hy:bs[i]?=some y) (B:ApD ps bs.length y) (hF:c.F.length=bs.length) (hn:bs.length≤1000000) (hpn:ps.length≤1000000):CV prog An 125 [aDg t ps bs os,.agg (dCt u c),aI (i:Int)] [aB (Eb ps c.F y i)]:=by
 refine cvz func125 ntmps125 ?_
 have hil:=(gS.1 hy).1
 have hFi:=Xh (F:=c.F) (k:=i) (by omega)
 obtain ⟨s,hs⟩:∃ s,scA c.F i=s:=⟨_,rfl⟩
 rw [hs] at hFi
 have hBl:=B.len
 by_cases c5:s<0
 case pos =>
  have hb:Eb ps c.F y i=false:=by unfold Eb;rw [hs,show frB s=false from decide_eq_false (by omega)];rfl
  rw [hb]
  repeat' (with_reducible first|refine qq ?_|refine OI ?_|refine Th ?_|(refine Tx 3 ?_;refine gO xA ?_))
  exact Ec
 by_cases c6:30<s
 case pos =>
  have hb:Eb ps c.F y i=false:=by unfold Eb;rw [hs,show frB s=false from decide_eq_false (by omega)];rfl
  rw [hb]
  repeat' (with_reducible first|refine qq ?_|refine OI ?_|refine Th ?_|(refine Tx 3 ?_;refine gO xA ?_))
  exact Ec
 have hfr:frB s=true:=decide_eq_true (by omega)
 by_cases k0:y.kind=0
 case pos =>
  obtain ⟨j,p,hA0,ha0,hp,P⟩:=B.port k0
  have f0:=P.f0
  have f1:=P.f1
  have hjl:=(gS.1 hp).1
  have hL0:=(gS.1 hA0).1
  have hb:Eb ps c.F y i=inK (s - p.fr):=by unfold Eb RC;rw [hs,hfr,decide_eq_true k0,if_pos k0,ha0,AfL hp];rfl
  rw [hb]
  repeat' (with_reducible first|refine qq ?_|refine OI ?_|refine Th ?_|refine Iu ?_|(refine Tx 5 ?_;refine gO xF <| gO xD <| gO xNe <| gO xM ?_;(first|iterate 3 refine Jd ?_|(refine Jy (xFa Fo Bm) ?_;refine Jy (xLd Bm) ?_;refine Jy (by exact CS rfl (by repeat' first|exact BJ rfl rfl|refine AZ rfl rfl rfl ?_)) ?_));refine Jd ?_;refine gO xPk ?_)|refine LO ?_|(refine BU (id:=11) AN (by kernel_rfl) ?_;refine gP xM <| gP xD <| gP xF <| gP xD <| gP xF <| gP xD <| gP (xIr Af (AG hA0)) <| gP xD <| gP (xIr BI (FX hp)) <| gP xF <| gP xD <| gP xSb <| gP (xCc func215 (OH (s - p.fr)) (args:=[_]) rfl) <| gP xA ?_;refine Ke ?_))
  exact Ec
 have HC:∀ a∈y.args,CV prog An 214 [aI a,.one (.ptr true (dCt u c))] [aB ((fun a:Int=>!frB (scA c.F a.toNat)) a)]:=fun a ha=>by have h1:=B.all k0 a ha;exact Ajh u c a h1.1 rfl (by omega) (by omega)
 have CTN:∀ vs,CV prog (Ako prog 214 vs (fun a:Int=>!frB (scA c.F a.toNat)) y.args) 213 [.one (AU t y.args),.one (.val (.func (.func 214) #[] vs.toArray))] [aB (y.args.any (fun a:Int=>!frB (scA c.F a.toNat)))]:=fun vs=>Yd func214 (by kernel_rfl) rfl t vs _ y.args (by omega)
 have hna:y.args.any (fun a:Int=>!frB (scA c.F a.toNat))=!y.args.all (fun a=>frB (sG c.F a)):=(List.not_all_eq_any_not ..).symm
 by_cases hall:y.args.all (fun a=>frB (sG c.F a))=true
 case neg =>
  rw [bc] at hall
  rw [hall] at hna
  simp only [hna,fm] at CTN
  have hb:Eb ps c.F y i=false:=by unfold Eb;rw [hs,hfr,hall,decide_eq_false k0];rfl
  rw [hb]
  repeat' (with_reducible first|refine qq ?_|refine OI ?_|refine Th ?_|refine Iu ?_|refine LP ?_|(refine Tx 6 ?_;refine gO xA ?_))
  exact Ec
 rw [hall] at hna
 simp only [hna,fj] at CTN
 have hb:Eb ps c.F y i=RC ps c.F y s:=by unfold Eb;rw [hs,hfr,hall];simp
 rw [hb]
 have hall:∀ a∈y.args,0≤sG c.F a∧sG c.F a≤30:=fun a ha=>of_decide_eq_true (List.all_eq_true.1 hall a ha)
 clear hb hna
 by_cases k1:y.kind=1
 case pos =>
  rw [show RC ps c.F y s=rwB y.vn y.ve s by unfold RC;rw [if_neg k0,if_pos k1]]
  repeat' (with_reducible first|refine qq ?_|refine OI ?_|refine Th ?_|refine Iu ?_|refine LP ?_|refine LO ?_|(refine Tx 12 ?_;refine gO xEq <| gO xA ?_)|(refine Tx 13 ?_;refine gO xM <| gO xF <| gO xL <| gO (xCc func216 (Qc y.vn y.ve s) (args:=[_]) rfl) <| gO xA ?_))
  exact Ec
 by_cases k6:y.kind=6
 case pos =>
  obtain ⟨a,hA0,ha0,hl0⟩:=B.a0 (by omega)
  have hL0:=(gS.1 hA0).1
  have hl0:=hl0 k0
  have hF0:=Xh (F:=c.F) (k:=a) (by omega)
  have hr0:=hall a (gM hA0)
  obtain ⟨r0,hq0⟩:∃ r,scA c.F a=r:=⟨_,rfl⟩
  rw [show sG c.F ((a:Nat):Int)=r0 by unfold sG;rw [ao];exact hq0] at hr0
  rw [hq0] at hF0
  have hg0:sG c.F (Bi y)=r0:=by rw [ha0];unfold sG;rw [ao];exact hq0
  have hv:=B.sv (by omega)
  unfold Dn at hv
  rw [show RC ps c.F y s=inK (s - r0+y.ve) by unfold RC;rw [if_neg k0,if_neg k1,if_pos k6,hg0]]
  repeat' (with_reducible first|refine qq ?_|refine OI ?_|refine Tj ?_|refine Iu ?_|refine LP ?_|refine LO ?_|(refine Tx 12 ?_;refine gO xEq <| gO xA ?_)|(refine Tx 14 ?_;refine gO xEq <| gO xA ?_)|(refine BU (id:=15) AN (by kernel_rfl) ?_;refine gP xM <| gP xD <| gP xF <| gP xD <| gP xF <| gP xD <| gP (xIr Af (AG hA0)) <| gP xD <| gP Aji <| gP xD <| gP xSb <| gP xF <| gP xF <| gP xD <| gP xAd <| gP (xCc func215 (OH (s - r0+y.ve)) (args:=[_]) rfl) <| gP xA ?_;refine Ke ?_))
  exact Ec
 by_cases k7:y.kind=7
 case pos =>
  obtain ⟨a,hA0,ha0,hl0⟩:=B.a0 (by omega)
  have hL0:=(gS.1 hA0).1
  have hl0:=hl0 k0
  have hF0:=Xh (F:=c.F) (k:=a) (by omega)
  have hr0:=hall a (gM hA0)
  obtain ⟨r0,hq0⟩:∃ r,scA c.F a=r:=⟨_,rfl⟩
  rw [show sG c.F ((a:Nat):Int)=r0 by unfold sG;rw [ao];exact hq0] at hr0
  rw [hq0] at hF0
  have hg0:sG c.F (Bi y)=r0:=by rw [ha0];unfold sG;rw [ao];exact hq0
  obtain ⟨b,hA1,ha1,hl1⟩:=B.a1 (by omega)
  have hL1:=(gS.1 hA1).1
  have hF1:=Xh (F:=c.F) (k:=b) (by omega)
  have hr1:=hall b (gM hA1)
  obtain ⟨r1,hq1⟩:∃ r,scA c.F b=r:=⟨_,rfl⟩
  rw [show sG c.F ((b:Nat):Int)=r1 by unfold sG;rw [ao];exact hq1] at hr1
  rw [hq1] at hF1
  have hg1:sG c.F (Dk y)=r1:=by rw [ha1];unfold sG;rw [ao];exact hq1
  rw [show RC ps c.F y s=inK (s - r0 - r1) by unfold RC;rw [if_neg k0,if_neg k1,if_neg k6,if_pos k7,hg0,hg1]]
  repeat' (with_reducible first|refine qq ?_|refine OI ?_|(refine Tx 1 ?_;refine gO xF <| gO xD <| gO xM <| gO Aos <| gO xD <| gN (xAl BV) <| gZ Aor ?_)|refine Iu ?_|refine LP ?_|refine LO ?_|(refine Tx 12 ?_;refine gO xEq <| gO xA ?_)|(refine Tx 14 ?_;refine gO xEq <| gO xA ?_)|(refine Tx 16 ?_;refine gO xEq <| gO xA ?_)|(refine BU (id:=17) AN (by kernel_rfl) ?_;refine gP xM <| gP xD <| gP xF <| gP xD <| gP xF <| gP xD <| gP (xIr Af (AG hA0)) <| gP xD <| gP Aos <| gP xD <| gP xSb <| gP xF <| gP xD <| gP xF <| gP xD <| gP (xIr Af (AG hA1)) <| gP xD <| gP Aos <| gP xD <| gP xSb <| gP (xCc func215 (OH (s - r0 - r1)) (args:=[_]) rfl) <| gP xA ?_;refine Ke ?_))
  exact Ec
 by_cases k2:y.kind=2
 case pos =>
  obtain ⟨a,hA0,ha0,hl0⟩:=B.a0 (by omega)
  have hL0:=(gS.1 hA0).1
  have hl0:=hl0 k0
  have hF0:=Xh (F:=c.F) (k:=a) (by omega)
  have hr0:=hall a (gM hA0)
  obtain ⟨r0,hq0⟩:∃ r,scA c.F a=r:=⟨_,rfl⟩
  rw [show sG c.F ((a:Nat):Int)=r0 by unfold sG;rw [ao];exact hq0] at hr0
  rw [hq0] at hF0
  have hg0:sG c.F (Bi y)=r0:=by rw [ha0];unfold sG;rw [ao];exact hq0
  rw [show RC ps c.F y s=(inK (s - r0) && rwB y.vn y.ve s) by unfold RC;rw [if_neg k0,if_neg k1,if_neg k6,if_neg k7,if_pos k2,hg0]]
  have SHC:=OH (s - r0)
  cases hq:inK (s - r0)
  case false =>
   rw [hq] at SHC
   repeat' (with_reducible first|refine qq ?_|refine OI ?_|refine Tj ?_|refine Iu ?_|refine LP ?_|refine LO ?_|(refine Tx 12 ?_;refine gO xEq <| gO xA ?_)|(refine Tx 14 ?_;refine gO xEq <| gO xA ?_)|(refine Tx 16 ?_;refine gO xEq <| gO xA ?_)|(refine Tx 18 ?_;refine gO xEq <| gO xA ?_)|refine AkD ?_)
   exact AH rfl (.cons_ (Fi rfl (by rw [gz])) .nil_)
  case true =>
   rw [hq] at SHC
   repeat' (with_reducible first|refine qq ?_|refine OI ?_|refine Tj ?_|refine Iu ?_|refine LP ?_|refine LO ?_|(refine Tx 12 ?_;refine gO xEq <| gO xA ?_)|(refine Tx 14 ?_;refine gO xEq <| gO xA ?_)|(refine Tx 16 ?_;refine gO xEq <| gO xA ?_)|(refine Tx 18 ?_;refine gO xEq <| gO xA ?_)|refine AkD ?_)
   exact AH rfl (.cons_ (Fi rfl (by rw [ga])) .nil_)
 by_cases k11:y.kind=11
 case pos =>
  obtain ⟨a,hA0,ha0,hl0⟩:=B.a0 (by omega)
  have hL0:=(gS.1 hA0).1
  have hl0:=hl0 k0
  have hF0:=Xh (F:=c.F) (k:=a) (by omega)
  have hr0:=hall a (gM hA0)
  obtain ⟨r0,hq0⟩:∃ r,scA c.F a=r:=⟨_,rfl⟩
  rw [show sG c.F ((a:Nat):Int)=r0 by unfold sG;rw [ao];exact hq0] at hr0
  rw [hq0] at hF0
  have hg0:sG c.F (Bi y)=r0:=by rw [ha0];unfold sG;rw [ao];exact hq0
  rw [show RC ps c.F y s=(inK (s - r0) && rwB y.vn y.ve s && rwB y.un y.ue s) by unfold RC;rw [if_neg k0,if_neg k1,if_neg k6,if_neg k7,if_neg k2,if_pos k11,hg0]]
  have SHC:=OH (s - r0)
  have RWC:=Qc y.vn y.ve s
  cases hq:inK (s - r0)
  case false =>
   rw [hq] at SHC
   repeat' (with_reducible first|refine qq ?_|refine OI ?_|refine Tj ?_|refine Iu ?_|refine LP ?_|refine LO ?_|(refine Tx 12 ?_;refine gO xEq <| gO xA ?_)|(refine Tx 14 ?_;refine gO xEq <| gO xA ?_)|(refine Tx 16 ?_;refine gO xEq <| gO xA ?_)|(refine Tx 18 ?_;refine gO xEq <| gO xA ?_)|(refine Tx 20 ?_;refine gO xEq <| gO xA ?_)|refine AfM ?_)
   exact AH rfl (.cons_ (Fi rfl (by rw [gz,gz])) .nil_)
  case true =>
   rw [hq] at SHC
   cases hq2:rwB y.vn y.ve s
   case false =>
    rw [hq2] at RWC
    repeat' (with_reducible first|refine qq ?_|refine OI ?_|refine Tj ?_|refine Iu ?_|refine LP ?_|refine LO ?_|(refine Tx 12 ?_;refine gO xEq <| gO xA ?_)|(refine Tx 14 ?_;refine gO xEq <| gO xA ?_)|(refine Tx 16 ?_;refine gO xEq <| gO xA ?_)|(refine Tx 18 ?_;refine gO xEq <| gO xA ?_)|(refine Tx 20 ?_;refine gO xEq <| gO xA ?_)|refine AfM ?_)
    exact AH rfl (.cons_ (Fi rfl (by rw [ga,gz])) .nil_)
   case true =>
    rw [hq2] at RWC
    repeat' (with_reducible first|refine qq ?_|refine OI ?_|refine Tj ?_|refine Iu ?_|refine LP ?_|refine LO ?_|(refine Tx 12 ?_;refine gO xEq <| gO xA ?_)|(refine Tx 14 ?_;refine gO xEq <| gO xA ?_)|(refine Tx 16 ?_;refine gO xEq <| gO xA ?_)|(refine Tx 18 ?_;refine gO xEq <| gO xA ?_)|(refine Tx 20 ?_;refine gO xEq <| gO xA ?_)|refine AfM ?_)
    exact AH rfl (.cons_ (Fi rfl (by rw [ga,ga])) .nil_)
 have hb:RC ps c.F y s=y.args.all fun a=>inK (s - sG c.F a):=by unfold RC;rw [if_neg k0,if_neg k1,if_neg k6,if_neg k7,if_neg k2,if_neg k11]
 rw [hb]
 repeat' (with_reducible first|refine qq ?_|refine OI ?_|refine Th ?_|refine Iu ?_|refine LP ?_|refine LO ?_|(refine Tx 12 ?_;refine gO xEq <| gO xA ?_)|(refine Tx 14 ?_;refine gO xEq <| gO xA ?_)|(refine Tx 16 ?_;refine gO xEq <| gO xA ?_)|(refine Tx 18 ?_;refine gO xEq <| gO xA ?_)|(refine Tx 20 ?_;refine gO xEq <| gO xA ?_)|(refine Tx 22 ?_;refine gO xF <| gO xD <| gO xN <| gO xM ?_))
 refine Bj (BK 3) (Av (fun n Fr H=>∃ k:Nat,k≤y.args.length∧n=y.args.length - k∧(y.args.take k).all (fun a=>inK (s - sG c.F a))=true∧Fr=ofL [(4,vr 1),(7,vr 2),(9,.one (.clo (.func 215) [])),(150,vd (AU t y.args)),(151,vi y.args.length),(152,vi ((k:Nat)))]∧H=[.box 26 [.d (Di t ps),.d (DK t bs),.d (AU t os)],.box 30 [.d (AU u c.F),.d (.row false 6 c.R.length (Ay (dIw false) c.R)),.d (.row false 3 c.E.length (Ay dyP c.E))],.box 3 [.d (.val (.int .i64 s))]]) (n0:=y.args.length) ⟨0,ad _,rfl,rfl,rfl,rfl⟩ ?_)
 clear HC CTN
 rintro n Fr H ⟨k,hk,rfl,hal,rfl,rfl⟩
 by_cases hlt:k<y.args.length
 case pos =>
  obtain ⟨z,hz⟩:∃ z,y.args[k]?=some z:=⟨_,gE hlt⟩
  have hzm:=gM hz
  have hzb:=B.all k0 z hzm
  have hzr:=hall z hzm
  obtain ⟨m,rfl⟩:∃ m:Nat,z=(m:Int):=⟨z.toNat,by omega⟩
  have hFm:=Xh (F:=c.F) (k:=m) (by omega)
  rw [show sG c.F ((m:Nat):Int)=scA c.F m by unfold sG;rw [ao]] at hzr
  have SHC:=OH (s - scA c.F m)
  cases hq:inK (s - scA c.F m)
  case false =>
   rw [hq] at SHC
   repeat' (with_reducible first|refine qq ?_|(refine Tx 23 ?_;refine gO xLt ?_)|refine AkE ?_|(refine Tx 26 ?_;refine gO xA ?_))
   exact AH rfl (.cons_ (Fi rfl ((AfE (p:=fun a=>inK (s - sG c.F a)) hz hq).symm)) .nil_)
  rw [hq] at SHC
  repeat' (with_reducible first|refine qq ?_|(refine Tx 23 ?_;refine gO xLt ?_)|refine AkE ?_|(refine Tx 27 ?_;refine gO xAd <| gO xM ?_))
  refine ⟨_,_,BK 3,_,by omega,k+1,by omega,rfl,MW (p:=fun a=>inK (s - sG c.F a)) hz hal hq,rfl,rfl⟩
 obtain rfl:k=y.args.length:=by omega
 rw [au] at hal
 repeat' (with_reducible first|refine qq ?_|(refine Tx 23 ?_;refine gO xLt ?_)|(refine Tx 28 ?_;refine gO xA ?_))
 exact AH rfl (.cons_ (Fi rfl (hal.symm)) .nil_)
theorem AkF {k:Nat} (h:k<E.length):((Ay dyP E).drop (k*3)).take 3=dyP (E[k]?.getD (0,0)):=Ug (eg_c h)
theorem AkG {k:Nat} (h:k<R.length):((Ay (dIw false) R).drop (k*6)).take 6=dIw false (R[k]?.getD iZ):=Ms (Xg h)
theorem Aaa (R:List Iq) (k:Nat):rG R (k:Int)=R[k]?.getD iZ:=by unfold rG;rw [ao]
theorem Tk (E:List Pq) (k:Nat):eG E (k:Int)=E[k]?.getD (0,0):=by unfold eG;rw [ao]
theorem Ph (F:List Int) (k:Nat):sG F (k:Int)=scA F k:=by unfold sG;rw [ao]
theorem zdy:([.val (.bool false),.row false 1 0 [],.val (.int .i64 0)]:List D)=dDy false 0 0:=(A.agg.inj Ml).symm
theorem Cs (t u:Bool) (c:Ct) (y:Bk) (k:Nat) {r:Nat} (hk:y.args[k]?=some (r:Int)) (hr:r<c.R.length) (ha:y.args.length≤1000000) (hv:c.R.length≤1000000):CV prog An 217 [aI (k:Int),.one (.ptr true (dCt u c)),.one (.ptr true (dBk t y))] [aIw false (c.R[r]?.getD iZ)]:=by
 refine cvz func217 ntmps217 ?_
 have l1:=(gS.1 hk).1
 repeat' (with_reducible first|refine qq ?_|(refine Tx 0 ?_;refine gN (xAl Ap) ?_)|(refine AE (id:=1) 9 AN (by kernel_rfl) ?_;dsimp only [List.take,List.drop];refine gP xF <| gP xD <| gP xF <| gP xD <| gP xM <| gP (by first|exact xIr Af (AG hk)|exact xIr Af (AkG hr)) <| gP xD <| gP (xIr Aj (AkG hr)) <| gP xL ?_;refine Ke ?_;refine gZ (xSk Ag) ?_))
 exact GG
theorem Hc (k:p') (h:Hd9 p'→p:=by with_reducible first|(intro Z9;refine qq ?_;exact Z9.o)|(intro Z9;refine Tx 0 ?_;refine gN xBo <| gN xBo <| gO xA ?_;exact Z9.o)|(intro Z9;refine Tx 1 ?_;refine gO xF <| gO xD <| gO xM <| gO (by first|exact xIr Al (Fb hy)|exact xIr Al (hwi)) <| gO xL <| gN (xAl Cm) <| gZ (xSk BW) ?_;exact Z9.o)|(intro Z9;refine Tx 2 ?_;refine gO (by first|exact xMf [(1,0,none),(2,0,none)]|exact CS rfl (by repeat' first|exact BJ rfl rfl|refine AZ rfl rfl rfl ?_)) <| gO xA ?_;exact Z9.o)|(intro Z9;refine Tx 3 ?_;refine gN (xAl Ap) ?_;exact Z9.o)|(intro Z9;refine Tx 4 ?_;refine gO xF <| gO xD ?_;exact Z9.o)|(intro Z9;refine Tx 6 ?_;refine gO xEq <| gO xA ?_;exact Z9.o)|(intro Z9;refine BU (id:=29) AN (by kernel_rfl) ?_;refine gP xL <| gP xF <| gP xD <| gP xM <| gP (xIr Aj (hwi)) <| gP xL <| gP (xCl func151 (IS)) <| gP xA ?_;refine Ke ?_;exact Z9.o)|fail):p:=h ⟨k⟩
theorem Iw (k:p') (h:Hd9 p'→p:=by with_reducible first|(intro Z9;refine Tx 9 ?_;refine gO xEq <| gO xA ?_;exact Z9.o)|fail):p:=h ⟨k⟩
theorem LQ (k:p') (h:Hd9 p'→p:=by with_reducible first|(intro Z9;refine Tx 11 ?_;refine gO xEq <| gO xA ?_;exact Z9.o)|fail):p:=h ⟨k⟩
theorem LS (h:p:=by
 exact this.more (by decide) (by decide)):p:=h
theorem AsT (h:p:=by first|exact xCl func219 (RV)|exact xCl func219 (RU)):p:=h
theorem Yp (t u:Bool) {ps:List Prt} {bs:List Bk} (os:List Int) (c:Ct) (i:Nat) {y:Bk} (hy:bs[i]?=some y) (B:ApD ps bs.length y) (hR:c.R.length=bs.length) (sR:∀ p∈c.R,IwS p LB LB) (hn:bs.length≤1000000) (hpn:ps.length≤1000000):CV prog An 126 [aDg t ps bs os,.agg (dCt u c),aI (i:Int)] [aB (Dd ps c.R y i)]:=by
 refine cvz func126 ntmps126 ?_
 have hil:=(gS.1 hy).1
 have hBl:=B.len
 have wi:=(Bx sR i).more LBx LBx
 have hwi:=AkG (R:=c.R) (k:=i) (by omega)
 rcases B.hk with h|h|h|h|h|h|h|h|h|h|h|h
 ·
  obtain ⟨j,pp,hA0,ha0,hp,PS⟩:=B.port h
  have l3:=(gS.1 hp).1
  have hL0:=(gS.1 hA0).1
  have f0:=PS.l0
  have f1:=PS.le
  have f2:=PS.h1
  have f3:=PS.f0
  have f4:=PS.f1
  have IN:=Wq pp.lo pp.hi (by omega) (by omega)
  have UN:=Ri pp.fr (by omega) (by omega)
  have SC:=IZ (Dc [(pp.lo,0),(pp.hi,0)]) (pw (-pp.fr)) (Ii (Mq pp.lo (by omega) (by decide)) (Mq pp.hi (by omega) (by decide))).2.2 ((WG f3 f4).more (by decide) (by decide))
  rw [show Pc (Dc [(pp.lo,0),(pp.hi,0)]) (pw (-pp.fr))=Mr pp from PS.scale] at SC
  have hb:LL ps c.R y=Mr pp:=by unfold LL BH;rw [if_neg (by omega),if_pos h,hA0];simp [hp]
  have ws:IwS (Mr pp) 20000 20000:=PS.iw.more (by decide) (by decide)
  unfold Dd
  rw [hb]
  have IS:=Ci _ _ ws wi
  repeat' (with_reducible first|refine Hc ?_|(refine AE (id:=7) 9 AN (by kernel_rfl) ?_;dsimp only [List.take,List.drop];refine gP xF <| gP xD <| gP xF <| gP xD <| gP (by first|exact xIr Af (hwi)|exact xIr Af (AG hA0)) <| gP xD <| gP (by first|exact xIr BI (hwi)|exact xIr BI (FX hp)) <| gP xL <| gQ (xAl Ok) ?_;refine Ke ?_;refine gZ (xSk Mk) ?_)|(refine AE (id:=8) 9 AN (by kernel_rfl) ?_;dsimp only [List.take,List.drop];refine gP xF <| gP xD <| gP xF <| gP xD <| gP (xCl func139 (IN)) <| gP xF <| gP xD <| gP (xCl func218 (UN)) <| gP (xCl func138 (SC)) ?_;refine Ke ?_;refine gZ (xSk Ag) ?_))
  exact Ec
 ·
  have hv:=B.sv (by omega)
  have RV:=GY y.vn y.ve hv
  have sv:=(Ef hv).more LBx LBx
  have PT:=DN (Ac y.vn 0 y.ve) sv.ok sv.lz
  have hb:LL ps c.R y=((Ac y.vn 0 y.ve),(Ac y.vn 0 y.ve)):=by unfold LL BH EM;simp [h]
  have ws:IwS (((Ac y.vn 0 y.ve),(Ac y.vn 0 y.ve))) 20000 20000:=by
   have:=Hb (y:=y) (Ea (y:=y) sR) (fun h2=>B.sv (by omega)) (fun h2=>B.su h2) (by omega)
   rw [show EM y (Dm c.R y)=((Ac y.vn 0 y.ve),(Ac y.vn 0 y.ve)) by unfold EM;simp [h]] at this
   exact LS
  unfold Dd
  rw [hb]
  have IS:=Ci _ _ ws wi
  repeat' (with_reducible first|refine Hc ?_|refine Iw ?_|(refine Tx 10 ?_;refine gO xF <| gO xL <| gO (xCl func219 (RV)) <| gO (xCl func140 (PT)) <| gZ (xSk Ag) ?_))
  exact Ec
 ·
  obtain ⟨a,hA0,ha0,hl0⟩:=B.a0 (by omega)
  have hl0:=hl0 (by omega)
  have hL0:=(gS.1 hA0).1
  obtain ⟨P,hP⟩:∃ P,c.R[a]?.getD iZ=P:=⟨_,rfl⟩
  have sp:=(Bx sR a).more LBx LBx
  have A0:=Cs t u c y 0 hA0 (by omega) (by omega) (by omega)
  have hj0:(Dm c.R y)[0]?=some P:=CJ (by omega) hA0 (by rw [ao,←hP];exact Xg (by omega))
  rw [hP] at sp A0
  have hv:=B.sv (by omega)
  have RV:=GY y.vn y.ve hv
  have sv:=(Ef hv).more LBx LBx
  have PT:=DN (Ac y.vn 0 y.ve) sv.ok sv.lz
  have C:=QZ ((Ac y.vn 0 y.ve),(Ac y.vn 0 y.ve)) P (.pt sv) sp
  have hb:LL ps c.R y=Lo ((Ac y.vn 0 y.ve),(Ac y.vn 0 y.ve)) P:=by unfold LL;rw [if_pos h,ha0,Aaa,hP]
  have ws:IwS (Lo ((Ac y.vn 0 y.ve),(Ac y.vn 0 y.ve)) P) 20000 20000:=(IwS.pt (Ef hv)).hull (hP ▸ Bx sR a) |>.more LBx LBx
  unfold Dd
  rw [hb]
  have IS:=Ci _ _ ws wi
  repeat' (with_reducible first|refine Hc ?_|refine Iw ?_|refine LQ ?_|(refine Tx 12 ?_;refine gO xF <| gO xL <| gO (xCl func219 (RV)) <| gO (xCl func140 (PT)) <| gO xM <| gO (xCc func217 A0 (args:=[_]) rfl) <| gO (xCl func142 (C)) <| gZ (xSk Ag) ?_))
  exact Ec
 ·
  obtain ⟨a,hA0,ha0,hl0⟩:=B.a0 (by omega)
  have hl0:=hl0 (by omega)
  have hL0:=(gS.1 hA0).1
  obtain ⟨P,hP⟩:∃ P,c.R[a]?.getD iZ=P:=⟨_,rfl⟩
  have sp:=(Bx sR a).more LBx LBx
  have A0:=Cs t u c y 0 hA0 (by omega) (by omega) (by omega)
  have hj0:(Dm c.R y)[0]?=some P:=CJ (by omega) hA0 (by rw [ao,←hP];exact Xg (by omega))
  rw [hP] at sp A0
  obtain ⟨b,hA1,ha1,hl1⟩:=B.a1 (by omega)
  have hL1:=(gS.1 hA1).1
  obtain ⟨Q,hQ⟩:∃ Q,c.R[b]?.getD iZ=Q:=⟨_,rfl⟩
  have sq:=(Bx sR b).more LBx LBx
  have A1:=Cs t u c y 1 hA1 (by omega) (by omega) (by omega)
  have hj1:(Dm c.R y)[1]?=some Q:=CJ (by omega) hA1 (by rw [ao,←hQ];exact Xg (by omega))
  rw [hQ] at sq A1
  have C:=Uw P Q sp sq
  have hb:LL ps c.R y=Ahe P Q:=by unfold LL BH EM;simp [h,hj0,hj1]
  have ws:IwS (Ahe P Q) 20000 20000:=by
   have:=Hb (y:=y) (Ea (y:=y) sR) (fun h2=>B.sv (by omega)) (fun h2=>B.su h2) (by omega)
   rw [show EM y (Dm c.R y)=Ahe P Q by unfold EM;simp [h,hj0,hj1]] at this
   exact LS
  unfold Dd
  rw [hb]
  have IS:=Ci _ _ ws wi
  repeat' (with_reducible first|refine Hc ?_|refine Iw ?_|refine LQ ?_|(refine Tx 13 ?_;refine gO xEq <| gO xA ?_)|(refine Tx 14 ?_;refine gO xM <| gO (xCc func217 A0 (args:=[_]) rfl) <| gO xM <| gO (xCc func217 A1 (args:=[_]) rfl) <| gO (xCl func143 (C)) <| gZ (xSk Ag) ?_))
  exact Ec
 ·
  obtain ⟨a,hA0,ha0,hl0⟩:=B.a0 (by omega)
  have hl0:=hl0 (by omega)
  have hL0:=(gS.1 hA0).1
  obtain ⟨P,hP⟩:∃ P,c.R[a]?.getD iZ=P:=⟨_,rfl⟩
  have sp:=(Bx sR a).more LBx LBx
  have A0:=Cs t u c y 0 hA0 (by omega) (by omega) (by omega)
  have hj0:(Dm c.R y)[0]?=some P:=CJ (by omega) hA0 (by rw [ao,←hP];exact Xg (by omega))
  rw [hP] at sp A0
  obtain ⟨b,hA1,ha1,hl1⟩:=B.a1 (by omega)
  have hL1:=(gS.1 hA1).1
  obtain ⟨Q,hQ⟩:∃ Q,c.R[b]?.getD iZ=Q:=⟨_,rfl⟩
  have sq:=(Bx sR b).more LBx LBx
  have A1:=Cs t u c y 1 hA1 (by omega) (by omega) (by omega)
  have hj1:(Dm c.R y)[1]?=some Q:=CJ (by omega) hA1 (by rw [ao,←hQ];exact Xg (by omega))
  rw [hQ] at sq A1
  have C:=ZO P Q sp sq
  have hb:LL ps c.R y=AnP P Q:=by unfold LL BH EM;simp [h,hj0,hj1]
  have ws:IwS (AnP P Q) 20000 20000:=by
   have:=Hb (y:=y) (Ea (y:=y) sR) (fun h2=>B.sv (by omega)) (fun h2=>B.su h2) (by omega)
   rw [show EM y (Dm c.R y)=AnP P Q by unfold EM;simp [h,hj0,hj1]] at this
   exact LS
  unfold Dd
  rw [hb]
  have IS:=Ci _ _ ws wi
  repeat' (with_reducible first|refine Hc ?_|refine Iw ?_|refine LQ ?_|(refine Tx 13 ?_;refine gO xEq <| gO xA ?_)|(refine Tx 15 ?_;refine gO xEq <| gO xA ?_)|(refine Tx 16 ?_;refine gO xM <| gO (xCc func217 A0 (args:=[_]) rfl) <| gO xM <| gO (xCc func217 A1 (args:=[_]) rfl) <| gO (xCl func144 (C)) <| gZ (xSk Ag) ?_))
  exact Ec
 ·
  obtain ⟨a,hA0,ha0,hl0⟩:=B.a0 (by omega)
  have hl0:=hl0 (by omega)
  have hL0:=(gS.1 hA0).1
  obtain ⟨P,hP⟩:∃ P,c.R[a]?.getD iZ=P:=⟨_,rfl⟩
  have sp:=(Bx sR a).more LBx LBx
  have A0:=Cs t u c y 0 hA0 (by omega) (by omega) (by omega)
  have hj0:(Dm c.R y)[0]?=some P:=CJ (by omega) hA0 (by rw [ao,←hP];exact Xg (by omega))
  rw [hP] at sp A0
  have C:=Uv P sp
  have hb:LL ps c.R y=AeL P:=by unfold LL BH EM;simp [h,hj0]
  have ws:IwS (AeL P) 20000 20000:=by
   have:=Hb (y:=y) (Ea (y:=y) sR) (fun h2=>B.sv (by omega)) (fun h2=>B.su h2) (by omega)
   rw [show EM y (Dm c.R y)=AeL P by unfold EM;simp [h,hj0]] at this
   exact LS
  unfold Dd
  rw [hb]
  have IS:=Ci _ _ ws wi
  repeat' (with_reducible first|refine Hc ?_|refine Iw ?_|refine LQ ?_|(refine Tx 13 ?_;refine gO xEq <| gO xA ?_)|(refine Tx 15 ?_;refine gO xEq <| gO xA ?_)|(refine Tx 17 ?_;refine gO xEq <| gO xA ?_)|(refine Tx 19 ?_;refine gO xEq <| gO xA ?_)|(refine Tx 20 ?_;refine gO xM <| gO (xCc func217 A0 (args:=[_]) rfl) <| gO (xCl func146 (C)) <| gZ (xSk Ag) ?_))
  exact Ec
 ·
  obtain ⟨a,hA0,ha0,hl0⟩:=B.a0 (by omega)
  have hl0:=hl0 (by omega)
  have hL0:=(gS.1 hA0).1
  obtain ⟨P,hP⟩:∃ P,c.R[a]?.getD iZ=P:=⟨_,rfl⟩
  have sp:=(Bx sR a).more LBx LBx
  have A0:=Cs t u c y 0 hA0 (by omega) (by omega) (by omega)
  have hj0:(Dm c.R y)[0]?=some P:=CJ (by omega) hA0 (by rw [ao,←hP];exact Xg (by omega))
  rw [hP] at sp A0
  have hv:=B.sv (by omega)
  have RV:=GY y.vn y.ve hv
  have sv:=(Ef hv).more LBx LBx
  have C:=IZ P (Ac y.vn 0 y.ve) sp sv
  have hb:LL ps c.R y=Pc P (Ac y.vn 0 y.ve):=by unfold LL BH EM;simp [h,hj0]
  have ws:IwS (Pc P (Ac y.vn 0 y.ve)) 20000 20000:=by
   have:=Hb (y:=y) (Ea (y:=y) sR) (fun h2=>B.sv (by omega)) (fun h2=>B.su h2) (by omega)
   rw [show EM y (Dm c.R y)=Pc P (Ac y.vn 0 y.ve) by unfold EM;simp [h,hj0]] at this
   exact LS
  unfold Dd
  rw [hb]
  have IS:=Ci _ _ ws wi
  repeat' (with_reducible first|refine Hc ?_|refine Iw ?_|refine LQ ?_|(refine Tx 13 ?_;refine gO xEq <| gO xA ?_)|(refine Tx 15 ?_;refine gO xEq <| gO xA ?_)|(refine Tx 17 ?_;refine gO xEq <| gO xA ?_)|(refine Tx 19 ?_;refine gO xEq <| gO xA ?_)|(refine Tx 21 ?_;refine gO xEq <| gO xA ?_)|(refine Tx 23 ?_;refine gO xEq <| gO xA ?_)|(refine AE (id:=24) 6 AN (by kernel_rfl) ?_;dsimp only [List.take,List.drop];refine gP xM <| gP (xCc func217 A0 (args:=[_]) rfl) <| gP xF <| gP xL <| gP (xCl func219 (RV)) <| gP (xCl func138 (C)) ?_;refine Ke ?_;refine gZ (xSk Ag) ?_))
  exact Ec
 ·
  obtain ⟨a,hA0,ha0,hl0⟩:=B.a0 (by omega)
  have hl0:=hl0 (by omega)
  have hL0:=(gS.1 hA0).1
  obtain ⟨P,hP⟩:∃ P,c.R[a]?.getD iZ=P:=⟨_,rfl⟩
  have sp:=(Bx sR a).more LBx LBx
  have A0:=Cs t u c y 0 hA0 (by omega) (by omega) (by omega)
  have hj0:(Dm c.R y)[0]?=some P:=CJ (by omega) hA0 (by rw [ao,←hP];exact Xg (by omega))
  rw [hP] at sp A0
  obtain ⟨b,hA1,ha1,hl1⟩:=B.a1 (by omega)
  have hL1:=(gS.1 hA1).1
  obtain ⟨Q,hQ⟩:∃ Q,c.R[b]?.getD iZ=Q:=⟨_,rfl⟩
  have sq:=(Bx sR b).more LBx LBx
  have A1:=Cs t u c y 1 hA1 (by omega) (by omega) (by omega)
  have hj1:(Dm c.R y)[1]?=some Q:=CJ (by omega) hA1 (by rw [ao,←hQ];exact Xg (by omega))
  rw [hQ] at sq A1
  have C:=Uz P Q sp sq
  have hb:LL ps c.R y=Xf P Q:=by unfold LL BH EM;simp [h,hj0,hj1]
  have ws:IwS (Xf P Q) 20000 20000:=by
   have:=Hb (y:=y) (Ea (y:=y) sR) (fun h2=>B.sv (by omega)) (fun h2=>B.su h2) (by omega)
   rw [show EM y (Dm c.R y)=Xf P Q by unfold EM;simp [h,hj0,hj1]] at this
   exact LS
  unfold Dd
  rw [hb]
  have IS:=Ci _ _ ws wi
  repeat' (with_reducible first|refine Hc ?_|refine Iw ?_|refine LQ ?_|(refine Tx 13 ?_;refine gO xEq <| gO xA ?_)|(refine Tx 15 ?_;refine gO xEq <| gO xA ?_)|(refine Tx 17 ?_;refine gO xEq <| gO xA ?_)|(refine Tx 18 ?_;refine gO xM <| gO (xCc func217 A0 (args:=[_]) rfl) <| gO xM <| gO (xCc func217 A1 (args:=[_]) rfl) <| gO (xCl func145 (C)) <| gZ (xSk Ag) ?_))
  exact Ec
 ·
  obtain ⟨a,hA0,ha0,hl0⟩:=B.a0 (by omega)
  have hl0:=hl0 (by omega)
  have hL0:=(gS.1 hA0).1
  obtain ⟨P,hP⟩:∃ P,c.R[a]?.getD iZ=P:=⟨_,rfl⟩
  have sp:=(Bx sR a).more LBx LBx
  have A0:=Cs t u c y 0 hA0 (by omega) (by omega) (by omega)
  have hj0:(Dm c.R y)[0]?=some P:=CJ (by omega) hA0 (by rw [ao,←hP];exact Xg (by omega))
  rw [hP] at sp A0
  obtain ⟨b,hA1,ha1,hl1⟩:=B.a1 (by omega)
  have hL1:=(gS.1 hA1).1
  obtain ⟨Q,hQ⟩:∃ Q,c.R[b]?.getD iZ=Q:=⟨_,rfl⟩
  have sq:=(Bx sR b).more LBx LBx
  have A1:=Cs t u c y 1 hA1 (by omega) (by omega) (by omega)
  have hj1:(Dm c.R y)[1]?=some Q:=CJ (by omega) hA1 (by rw [ao,←hQ];exact Xg (by omega))
  rw [hQ] at sq A1
  have C:=Ux P Q sp sq
  have hb:LL ps c.R y=Ahf P Q:=by unfold LL BH EM;simp [h,hj0,hj1]
  have ws:IwS (Ahf P Q) 20000 20000:=by
   have:=Hb (y:=y) (Ea (y:=y) sR) (fun h2=>B.sv (by omega)) (fun h2=>B.su h2) (by omega)
   rw [show EM y (Dm c.R y)=Ahf P Q by unfold EM;simp [h,hj0,hj1]] at this
   exact LS
  unfold Dd
  rw [hb]
  have IS:=Ci _ _ ws wi
  repeat' (with_reducible first|refine Hc ?_|refine Iw ?_|refine LQ ?_|(refine Tx 13 ?_;refine gO xEq <| gO xA ?_)|(refine Tx 15 ?_;refine gO xEq <| gO xA ?_)|(refine Tx 17 ?_;refine gO xEq <| gO xA ?_)|(refine Tx 19 ?_;refine gO xEq <| gO xA ?_)|(refine Tx 21 ?_;refine gO xEq <| gO xA ?_)|(refine Tx 23 ?_;refine gO xEq <| gO xA ?_)|(refine Tx 25 ?_;refine gO xEq <| gO xA ?_)|(refine Tx 26 ?_;refine gO xM <| gO (xCc func217 A0 (args:=[_]) rfl) <| gO xM <| gO (xCc func217 A1 (args:=[_]) rfl) <| gO (xCl func148 (C)) <| gZ (xSk Ag) ?_))
  exact Ec
 ·
  obtain ⟨a,hA0,ha0,hl0⟩:=B.a0 (by omega)
  have hl0:=hl0 (by omega)
  have hL0:=(gS.1 hA0).1
  obtain ⟨P,hP⟩:∃ P,c.R[a]?.getD iZ=P:=⟨_,rfl⟩
  have sp:=(Bx sR a).more LBx LBx
  have A0:=Cs t u c y 0 hA0 (by omega) (by omega) (by omega)
  have hj0:(Dm c.R y)[0]?=some P:=CJ (by omega) hA0 (by rw [ao,←hP];exact Xg (by omega))
  rw [hP] at sp A0
  obtain ⟨b,hA1,ha1,hl1⟩:=B.a1 (by omega)
  have hL1:=(gS.1 hA1).1
  obtain ⟨Q,hQ⟩:∃ Q,c.R[b]?.getD iZ=Q:=⟨_,rfl⟩
  have sq:=(Bx sR b).more LBx LBx
  have A1:=Cs t u c y 1 hA1 (by omega) (by omega) (by omega)
  have hj1:(Dm c.R y)[1]?=some Q:=CJ (by omega) hA1 (by rw [ao,←hQ];exact Xg (by omega))
  rw [hQ] at sq A1
  have C:=Uy P Q sp sq
  have hb:LL ps c.R y=AeM P Q:=by unfold LL BH EM;simp [h,hj0,hj1]
  have ws:IwS (AeM P Q) 20000 20000:=by
   have:=Hb (y:=y) (Ea (y:=y) sR) (fun h2=>B.sv (by omega)) (fun h2=>B.su h2) (by omega)
   rw [show EM y (Dm c.R y)=AeM P Q by unfold EM;simp [h,hj0,hj1]] at this
   exact LS
  unfold Dd
  rw [hb]
  have IS:=Ci _ _ ws wi
  repeat' (with_reducible first|refine Hc ?_|refine Iw ?_|refine LQ ?_|(refine Tx 13 ?_;refine gO xEq <| gO xA ?_)|(refine Tx 15 ?_;refine gO xEq <| gO xA ?_)|(refine Tx 17 ?_;refine gO xEq <| gO xA ?_)|(refine Tx 19 ?_;refine gO xEq <| gO xA ?_)|(refine Tx 21 ?_;refine gO xEq <| gO xA ?_)|(refine Tx 23 ?_;refine gO xEq <| gO xA ?_)|(refine Tx 25 ?_;refine gO xEq <| gO xA ?_)|(refine Tx 27 ?_;refine gO xEq <| gO xA ?_)|(refine Tx 28 ?_;refine gO xM <| gO (xCc func217 A0 (args:=[_]) rfl) <| gO xM <| gO (xCc func217 A1 (args:=[_]) rfl) <| gO (xCl func149 (C)) <| gZ (xSk Ag) ?_))
  exact Ec
 ·
  obtain ⟨a,hA0,ha0,hl0⟩:=B.a0 (by omega)
  have hl0:=hl0 (by omega)
  have hL0:=(gS.1 hA0).1
  obtain ⟨P,hP⟩:∃ P,c.R[a]?.getD iZ=P:=⟨_,rfl⟩
  have sp:=(Bx sR a).more LBx LBx
  have A0:=Cs t u c y 0 hA0 (by omega) (by omega) (by omega)
  have hj0:(Dm c.R y)[0]?=some P:=CJ (by omega) hA0 (by rw [ao,←hP];exact Xg (by omega))
  rw [hP] at sp A0
  have C:=UA P sp
  have hb:LL ps c.R y=RQ P:=by unfold LL BH EM;simp [h,hj0]
  have ws:IwS (RQ P) 20000 20000:=by
   have:=Hb (y:=y) (Ea (y:=y) sR) (fun h2=>B.sv (by omega)) (fun h2=>B.su h2) (by omega)
   rw [show EM y (Dm c.R y)=RQ P by unfold EM;simp [h,hj0]] at this
   exact LS
  unfold Dd
  rw [hb]
  have IS:=Ci _ _ ws wi
  repeat' (with_reducible first|refine Hc ?_|refine Iw ?_|refine LQ ?_|(refine Tx 13 ?_;refine gO xEq <| gO xA ?_)|(refine Tx 15 ?_;refine gO xEq <| gO xA ?_)|(refine Tx 17 ?_;refine gO xEq <| gO xA ?_)|(refine Tx 19 ?_;refine gO xEq <| gO xA ?_)|(refine Tx 21 ?_;refine gO xEq <| gO xA ?_)|(refine Tx 22 ?_;refine gO xM <| gO (xCc func217 A0 (args:=[_]) rfl) <| gO (xCl func147 (C)) <| gZ (xSk Ag) ?_))
  exact Ec
 ·
  obtain ⟨a,hA0,ha0,hl0⟩:=B.a0 (by omega)
  have hl0:=hl0 (by omega)
  have hL0:=(gS.1 hA0).1
  obtain ⟨P,hP⟩:∃ P,c.R[a]?.getD iZ=P:=⟨_,rfl⟩
  have sp:=(Bx sR a).more LBx LBx
  have A0:=Cs t u c y 0 hA0 (by omega) (by omega) (by omega)
  have hj0:(Dm c.R y)[0]?=some P:=CJ (by omega) hA0 (by rw [ao,←hP];exact Xg (by omega))
  rw [hP] at sp A0
  have hv:=B.sv (by omega)
  have RV:=GY y.vn y.ve hv
  have sv:=(Ef hv).more LBx LBx
  have hu:=B.su h
  have RU:=GY y.un y.ue hu
  have su:=(Ef hu).more LBx LBx
  have C:=Wr P (Ac y.vn 0 y.ve) (Ac y.un 0 y.ue) sp sv su (B.cl h)
  have hb:LL ps c.R y=Ye P (Ac y.vn 0 y.ve) (Ac y.un 0 y.ue):=by unfold LL BH EM;simp [h,hj0]
  have ws:IwS (Ye P (Ac y.vn 0 y.ve) (Ac y.un 0 y.ue)) 20000 20000:=by
   have:=Hb (y:=y) (Ea (y:=y) sR) (fun h2=>B.sv (by omega)) (fun h2=>B.su h2) (by omega)
   rw [show EM y (Dm c.R y)=Ye P (Ac y.vn 0 y.ve) (Ac y.un 0 y.ue) by unfold EM;simp [h,hj0]] at this
   exact LS
  unfold Dd
  rw [hb]
  have IS:=Ci _ _ ws wi
  repeat' (with_reducible first|refine Hc ?_|refine Iw ?_|refine LQ ?_|(refine Tx 13 ?_;refine gO xEq <| gO xA ?_)|(refine Tx 15 ?_;refine gO xEq <| gO xA ?_)|(refine Tx 17 ?_;refine gO xEq <| gO xA ?_)|(refine Tx 19 ?_;refine gO xEq <| gO xA ?_)|(refine Tx 21 ?_;refine gO xEq <| gO xA ?_)|(refine Tx 23 ?_;refine gO xEq <| gO xA ?_)|(refine Tx 25 ?_;refine gO xEq <| gO xA ?_)|(refine Tx 27 ?_;refine gO xEq <| gO xA ?_)|(refine FK (id:=5) 12 [(12,11)] AN (by kernel_rfl) ?_;dsimp only [List.take,List.drop];refine gP xM <| gP (xCc func217 A0 (args:=[_]) rfl) <| gP xF <| gP xL <| gP AsT <| gP xF <| gP xL <| gP AsT <| gP (xCl func150 (C)) <| gP xMt <| gP (by exact EO rfl rfl rfl) <| gP xEx ?_;refine Ke ?_;refine gZ (xSk Ag) ?_))
  exact Ec
end Go.Proofs.YtmdfjbpggbhgnaaGreatDoor
