/- What the proofs of this claim share, part 16. No conditions. -/
import Derived.Test.YtmdfjbpggbhgnaaGreatDoorMr15
import Derived.Test.YtmdfjbpggbhgnaaGreatDoorMr10
import Derived.Test.YtmdfjbpggbhgnaaGreatDoorMr11
import Derived.Test.YtmdfjbpggbhgnaaGreatDoorMr9
import Derived.Test.YtmdfjbpggbhgnaaGreatDoorMr12
set_option maxRecDepth 100000
set_option maxHeartbeats 4000000
set_option linter.all false
open Go.Proofs.Tryz
namespace Go.Proofs.YtmdfjbpggbhgnaaGreatDoor
open Go.RowKit
variable {i id j n t:Nat} {l:List (Option Iq)} {H:List Ob} {a r:Iq} {y:Bk} {ps:List Prt} {bs:List Bk} {F os:List Int} {st:List (Iq)} {s:Int} {p p':Prop} {q:Rv × Rv} {w:Bool} {E:List Pq} {R:List Iq}
abbrev iZ:Iq:=((0,0),(0,0))
def kW:Option Iq→List C
 | none=>[.d (.val (.bool false)),.d (.val (.slice none 0 0)),.d (.val (.int .i64 0)),.d (.val (.bool false)),.d (.val (.slice none 0 0)),.d (.val (.int .i64 0))]
 | some a=>(dIw false a).map C.d
def kWs (l:List (Option Iq)):List C:=(l.map kW).flatten
def gW (l:List (Option Iq)):List Iq:=l.map (·.getD iZ)
theorem Ot (o:Option Iq):(kW o).length=6:=by cases o <;> rfl
theorem EZ (o:Option Iq) (l:List (Option Iq)):kWs (o::l)=kW o++kWs l:=by simp [kWs]
theorem AiM (l:List (Option Iq)):(kWs l).length=l.length*6:=by
 induction l with
 | nil=>rfl
 | cons o l ih=>rw [EZ,ak,ih,Ot,bw];omega
theorem AfE:∀ {l:List (Option Iq)} {i:Nat} {o:Option Iq},l[i]?=some o→((kWs l).drop (i*6)).take 6=kW o
 | [],i,o,h=>by simp at h
 | q::l,0,o,h=>by
  simp only [gk,Option.some.injEq] at h
  subst h
  rw [EZ,fc,im,jq (by rw [Ot];omega),al (by rw [Ot];omega)]
 | q::l,i+1,o,h=>by
  simp only [ew] at h
  rw [EZ,show (i+1)*6=(kW q).length+i*6 by rw [Ot];omega,←jd,je]
  exact AfE h
theorem AaY:∀ {l:List (Option Iq)} {i:Nat} (a:Iq),i<l.length→(kWs l).take (i*6)++(dIw false a).map C.d++(kWs l).drop (i*6+6)=kWs (l.set i (some a))
 | [],i,a,h=>by simp at h
 | q::l,0,a,h=>by
  rw [EZ,fc,jr,dz,bo,bk,EZ,show (6:Nat)=(kW q).length from (Ot q).symm,je]
  rfl
 | q::l,i+1,a,h=>by
  have ih:=AaY (l:=l) (i:=i) a (by simpa using h)
  rw [EZ,bl,EZ,←ih,show (i+1)*6+6=(kW q).length+(i*6+6) by rw [Ot];omega,←jd,je,show (i+1)*6=(kW q).length+i*6 by rw [Ot];omega,List.take_length_add_append]
  simp
theorem AiN (n:Nat):Em (madeCells (Value.agg #[.bool false,.slice none 0 0,.int .i64 0,.bool false,.slice none 0 0,.int .i64 0]).cells (n*6)).toList=kWs (List.replicate n none):=by
 have h1:∀ a:Nat,(madeCells (Value.agg #[.bool false,.slice none 0 0,.int .i64 0,.bool false,.slice none 0 0,.int .i64 0]).cells a).toList=(List.range a).map (fun j=>#[Value.bool false,.slice none 0 0,.int .i64 0,.bool false,.slice none 0 0,.int .i64 0][j % 6]!):=fun a=>by
  unfold madeCells
  rw [kp,Array.toList_range]
  rfl
 rw [h1]
 induction n with
 | zero=>rfl
 | succ n ih =>
  rw [show (n+1)*6=n*6+1+1+1+1+1+1 by omega,de,de,de,de,de,de,List.replicate_succ']
  simp only [fv,Em] at ih ⊢
  rw [ih]
  simp only [kWs,fv,List.flatten_append,bp,List.map_nil,show n*6 % 6=0 by omega,show (n*6+1) % 6=1 by omega,show (n*6+1+1) % 6=2 by omega,show (n*6+1+1+1) % 6=3 by omega,show (n*6+1+1+1+1) % 6=4 by omega,show (n*6+1+1+1+1+1) % 6=5 by omega,List.append_assoc]
  rfl
theorem AiO:∀ c∈kWs l,C.bel n c:=fun c hc=>by
 obtain ⟨cs,hcs,hc⟩:=List.mem_flatten.1 hc
 obtain ⟨o,_,rfl⟩:=List.mem_map.1 hcs
 cases o with
 | none=>simp [kW] at hc;rcases hc with rfl|rfl|rfl|rfl|rfl|rfl <;> trivial
 | some p=>exact AdA c hc
theorem AmI {t:Bool} (o:Option Iq):AY (Fd t H) (kW o) (dIw false (o.getD iZ)):=by
 cases o with
 | none =>
  show AY (Fd t H) _ (dIw false iZ)
  rw [AaA]
  exact .cons_ (.d fun _=>.val _) (.cons_ .nil (.cons_ (.d fun _=>.val _) (.cons_ (.d fun _=>.val _) (.cons_ .nil (.cons_ (.d fun _=>.val _) .nil_)))))
 | some p=>exact AY.map_l.2 ⟨rfl,fun j a b ha hb=>by
   have:(dIw false p)[j]?=some b:=hb
   rw [ha] at this
   cases this
   exact .d fun _=>EH _ a (gM ha)⟩
theorem AiP {t:Bool} (l:List (Option Iq)):AY (Fd t H) (kWs l) (Av (dIw false) (gW l)):=by
 induction l with
 | nil=>exact AY.nil_
 | cons o l ih =>
  rw [EZ]
  exact (AmI o).app ih
theorem AaZ (l:List (Option Iq)):(gW l).length=l.length:=af ..
theorem AmJ {p:Iq} (h:l[i]?=some (some p)):(gW l)[i]?=some p:=by
 unfold gW
 rw [ag,h]
 rfl
theorem Aba {t:Bool} {ty:Nat} {c:C} {y:D} (hc:c=.own id n) (hH:H[id]?=some (.row ty 6 n (kWs l))) (hy:y=.row t 6 n (Av (dIw false) (gW l))):Fd t H c y:=Cg hc hH hy (AiP l)
section
variable {P:Program} {G:World→Prop} {o:Oper} {F:Frm} {H:List Ob}
theorem Tc {t e:TypeId} {x y:Operand} {by_:Nat} {k k':IntKind} (ho:o.op=.makeSlice t x y) (hx:F.ev x=.one (.d (.val (.int k (n:Int))))) (hy:F.ev y=.one (.d (.val (.int k' (n:Int))))) (ht:TyS P t e 6) (hz:TyZ P e (.agg #[.bool false,.slice none 0 0,.int .i64 0,.bool false,.slice none 0 0,.int .i64 0]) 6 by_) (hn:n≤1000000) (hby:by_≤1000) :
  AN P G o F H (.one (.own H.length n)) [.row e 6 n (kWs (List.replicate n none))]:=by
 have:=Bs (P:=P) (G:=G) (H:=H) ho hx hy ht hz hn hby
 rwa [AiN] at this
theorem AiQ {t ty:TypeId} {x:Operand} {p:Iq} (ho:o.op=.load t x) (hx:F.ev x=.one (.ref id (i*6) (some n))) (hH:H[id]?=some (.row ty 6 n (kWs l))) (hp:l[i]?=some (some p)) (hk:TyK P t true 6):AN P G o F H (.agg ((dIw false p).map C.d)) [] :=
 Qo ho hx (.row hH) hk (AfE hp) rfl
theorem AiR {t ty:TypeId} {x y:Operand} {l':List (Option Iq)} {p:Iq} (ho:o.op=.store t x y) (hx:F.ev x=.one (.ref id (i*6) (some n))) (hH:H[id]?=some (.row ty 6 n (kWs l))) (hy:F.ev y=.agg ((dIw false p).map C.d)) (hty:TyK P t true 6) (hi:i<l.length) (hl:l.set i (some p)=l'):TOk P G o F H .any (H.set id (.row ty 6 n (kWs l'))):=by
 have h3:((dIw false p).map C.d).length=6:=rfl
 have:=IG (P:=P) (G:=G) ho hx hH rfl (show Ek (F.ev y)=some ((dIw false p).map C.d) by rw [hy];rfl) hty rfl (by rw [h3];show i*6+6≤(kWs l).length;rw [AiM];omega)
 rw [h3] at this
 simp only [Ob.cs,Ob.setC] at this
 rw [AaY p hi,hl] at this
 exact this
end
def Gm (a:Iq):Bool:=Dm a.1 || Dm a.2
def Ou (p:Prt):Iq:=(Ae p.lo 0 (-p.fr),Ae p.hi 0 (-p.fr))
def Fg (y:Bk) (l:List Iq):Iq :=
 if y.kind=1 then (Ae y.vn 0 y.ve,Ae y.vn 0 y.ve)
 else if y.kind=3 then Afs (l[0]?.getD iZ) (l[1]?.getD iZ)
 else if y.kind=4 then AiF (l[0]?.getD iZ) (l[1]?.getD iZ)
 else if y.kind=5 then AdK (l[0]?.getD iZ)
 else if y.kind=6 then LV (l[0]?.getD iZ) (Ae y.vn 0 y.ve)
 else if y.kind=7 then Aft (l[0]?.getD iZ) (l[1]?.getD iZ)
 else if y.kind=8 then Afu (l[0]?.getD iZ) (l[1]?.getD iZ)
 else if y.kind=9 then AdL (l[0]?.getD iZ) (l[1]?.getD iZ)
 else if y.kind=10 then QX (l[0]?.getD iZ)
 else UA (l[0]?.getD iZ) (Ae y.vn 0 y.ve) (Ae y.un 0 y.ue)
def Bv (y:Bk) (l:List Iq) (ps:List Prt):Iq:=if y.kind=0 then (ps[((y.args[0]?).getD 0).toNat]?.map Ou).getD iZ else Fg y l
theorem PH {d:Nat} (h:IwS a n d) (hl:Gm a=false):IwS a LB LB:=by
 unfold Gm at hl
 rw [kt] at hl
 exact ⟨AiD h.s1.ok hl.1,AiD h.s2.ok hl.2,h.le⟩
theorem IwS.zero (n d:Nat):IwS iZ n d:=.pt (Sm.zero n d)
theorem Bx {l:List Iq} {d:Nat} (h:∀ p∈l,IwS p n d) (k:Nat):IwS (l[k]?.getD iZ) n d:=by
 cases hk:l[k]? with
 | none=>exact IwS.zero n d
 | some p=>exact h p (gM hk)
theorem FB {n e:Int} (h:DE n e):Sm (Ae n 0 e) LB LB:=by
 obtain ⟨h1,h2,h3,h4⟩:=h
 exact (Sm.shift (n:=32) (by omega) (by omega) (by omega)).more (by decide) (by decide)
theorem GE {l:List Iq} (hl:∀ p∈l,IwS p LB LB) (hv:(y.kind=1∨y.kind=6∨y.kind=11)→DE y.vn y.ve) (hu:y.kind=11→DE y.un y.ue) (hk:y.kind=1∨y.kind=3∨y.kind=4∨y.kind=5∨y.kind=6∨y.kind=7∨y.kind=8∨y.kind=9∨y.kind=10∨y.kind=11):IwS (Fg y l) LC LC:=by
 have a:=Bx hl 0
 have b:=Bx hl 1
 have up:∀ {r:Iq},IwS r LB LB→IwS r LC LC:=fun h=>h.more (by decide) (by decide)
 unfold Fg
 generalize l[0]?.getD iZ=p at a ⊢
 generalize l[1]?.getD iZ=q at b ⊢
 rcases hk with h|h|h|h|h|h|h|h|h|h <;> simp only [h,Int.reduceEq,if_true,if_false,reduceIte]
 ·exact up (.pt (FB (hv (.inl h))))
 ·exact (IwS.add a b (by decide:LB≤65536)).more (by decide:LB+LB+1≤LC) lb_c
 ·exact (IwS.sub a b (by decide:LB≤65536)).more (by decide:LB+LB+1≤LC) lb_c
 ·exact up a.neg
 ·exact (IwS.mul a (.pt (FB (hv (.inr (.inl h))))) (by decide:LB≤30000)).more (by decide:LB+LB≤LC) (by decide:LB+LB≤LC)
 ·exact (IwS.mul a b (by decide:LB≤30000)).more (by decide:LB+LB≤LC) (by decide:LB+LB≤LC)
 ·exact up (a.min b)
 ·exact up (a.max b)
 ·exact up a.abs
 ·exact up (a.clip (FB (hv (.inr (.inr h)))) (FB (hu h)))
structure Rh (p:Prt):Prop where
 l0 : -2147483648≤p.lo
 le:p.lo≤p.hi
 h1:p.hi<2147483648
 f0:0≤p.fr
 f1:p.fr≤30
theorem Ri {z f:Int} (f0:0≤f) (f1:f≤30):gv (Ae z 0 (-f))*2 ^ f.toNat=z*2 ^ GQ:=by
 have:=Oi (p:=(z,0)) (n:=f.toNat) (by show 0+f.toNat≤65536;omega) (by omega)
 rw [show (-(f.toNat:Int)) = -f by omega,Oj] at this
 exact this
theorem Rj {z f:Int} (h0 : -2147483648≤z) (h1:z<2147483648) (f0:0≤f) (f1:f≤30):Sm (Ae z 0 (-f)) 264 200:=Sm.shift (n:=64) (by omega) (by omega) (by omega)
theorem Rh.iw {p:Prt} (h:Rh p):IwS (Ou p) 264 200:=by
 obtain ⟨h1,h2,h3,h4,h5⟩:=h
 refine ⟨Rj h1 (by omega) h4 h5,Rj (by omega) h3 h4 h5,?_⟩
 have e1:=Ri (z:=p.lo) h4 h5
 have e2:=Ri (z:=p.hi) h4 h5
 refine Int.not_lt.1 fun hc=>?_
 have:=lg hc (Be p.fr.toNat)
 have g2:=fg h2 (bf (Be GQ))
 have e1':gv (Ou p).1*2 ^ p.fr.toNat=p.lo*2 ^ GQ:=e1
 have e2':gv (Ou p).2*2 ^ p.fr.toNat=p.hi*2 ^ GQ:=e2
 omega
theorem Rh.scale {p:Prt} (h:Rh p):LV (CC [(p.lo,0),(p.hi,0)]) (Ae 1 0 (-p.fr))=Ou p:=by
 have H:=h.iw
 obtain ⟨h1,h2,h3,h4,h5⟩:=h
 have s1:Sm (p.lo,0) 264 200:=Il p.lo (by omega) (by decide)
 have s2:Sm (p.hi,0) 264 200:=Il p.hi (by omega) (by decide)
 obtain ⟨e1,e2,e3⟩:=Fz s1 s2
 have s3:Sm (Ae 1 0 (-p.fr)) 264 200:=Rj (by decide) (by decide) h4 h5
 have g2:=fg h2 (bf (Be GQ))
 rw [Oj,Oj] at e1 e2
 have E1:gv (CC [(p.lo,0),(p.hi,0)]).1=p.lo*2 ^ GQ:=by rw [e1];omega
 have E2:gv (CC [(p.lo,0),(p.hi,0)]).2=p.hi*2 ^ GQ:=by rw [e2];omega
 generalize CC [(p.lo,0),(p.hi,0)]=w at e3 E1 E2 ⊢
 have m1:=Sm.mul e3.s1 s3 (by decide)
 have m2:=Sm.mul e3.s2 s3 (by decide)
 obtain ⟨k1,k2,k3⟩:=FA m1 m1 m2 m2
 have mg:∀ {x:Pq} {z:Int},Sm x 264 200→gv x=z*2 ^ GQ→gv (CB x (Ae 1 0 (-p.fr)))=gv (Ae z 0 (-p.fr)):=fun {x z} hx hz=>by
  have a1:=Aaw (p:=x) (q:=Ae 1 0 (-p.fr)) (lT (ed hx.d s3.d) (by decide))
  have a2:=Ri (z:=1) h4 h5
  have a3:=Ri (z:=z) h4 h5
  rw [hz] at a1
  have p1:=Be GQ
  have p2:=Be p.fr.toNat
  refine jv (jb p2) (jv (jb p1) ?_)
  rw [a3,jc,a1,ar (z*2 ^ GQ),a2,jf]
 have G1:=mg e3.s1 E1
 have G2:=mg e3.s2 E2
 refine AfB (n:=264+264) (d:=200+200) k3 H ?_ ?_
 ·show gv (CC [CB w.1 (Ae 1 0 (-p.fr)),CB w.1 (Ae 1 0 (-p.fr)),CB w.2 (Ae 1 0 (-p.fr)),CB w.2 (Ae 1 0 (-p.fr))]).1=gv (Ae p.lo 0 (-p.fr))
  rw [k1,G1,G2]
  have:=H.le
  simp only [Ou] at this
  omega
 ·show gv (CC [CB w.1 (Ae 1 0 (-p.fr)),CB w.1 (Ae 1 0 (-p.fr)),CB w.2 (Ae 1 0 (-p.fr)),CB w.2 (Ae 1 0 (-p.fr))]).2=gv (Ae p.hi 0 (-p.fr))
  rw [k2,G1,G2]
  have:=H.le
  simp only [Ou] at this
  omega
theorem Td (h:Bc ps bs os=0) {i:Nat} {p:Prt} (hp:ps[i]?=some p):Rh p:=by
 have hpp:=AdE h hp
 have h3 : -2147483648≤p.lo∧p.lo≤p.hi∧p.hi<2147483648∧0≤p.fr∧p.fr≤30:=cm fun hn=>by unfold EO at hpp;rw [if_neg hn] at hpp;cases hpp
 exact ⟨h3.1,h3.2.1,h3.2.2.1,h3.2.2.2.1,h3.2.2.2.2⟩
def LF (vs:List (Option (Iq))) (y:Bk):List (Iq):=if y.kind=0 then [] else y.args.map fun a=>(vs[a.toNat]?.getD none).getD iZ
def tkW (ps:List Prt) (bs:List Bk) (vs:List (Option (Iq))) (i:Nat):Iq:=match bs[i]? with
 | some y=>Bv y (LF vs y) ps
 | none=>iZ
def AiS (ps:List Prt) (bs:List Bk) (vs:List (Option (Iq))) (l:List Nat):List (Option (Iq)):=l.foldl (fun v i=>v.set i (some (tkW ps bs  v i))) vs
def XM (dl:List Nat) (st:List (Iq)) (vs:List (Option (Iq))):List (Option (Iq)):=(dl.zip st).foldl (fun v p=>v.set p.1 (some p.2)) vs
theorem Wl (ps:List Prt) (bs:List Bk):∀ (l:List Nat) (vs:List (Option (Iq))),(AiS ps bs  vs l).length=vs.length
 | [],vs=>rfl
 | i::l,vs=>by show (AiS ps bs  _ l).length=_;rw [Wl ps bs  l];simp
theorem MI:∀ (dl:List Nat) (st:List (Iq)) (vs:List (Option (Iq))),(XM dl st vs).length=vs.length
 | [],st,vs=>rfl
 | i::dl,[],vs=>rfl
 | i::dl,x::st,vs=>by show (XM dl st _).length=_;rw [MI dl st];simp
theorem Abb (ps:List Prt) (bs:List Bk) (vs:List (Option (Iq))) {l:List Nat} {t j:Nat} (h:l[t]?=some j):AiS ps bs  vs (l.take (t+1))=(AiS ps bs  vs (l.take t)).set j (some (tkW ps bs  (AiS ps bs  vs (l.take t)) j)):=by
 unfold AiS
 rw [ay,h,ff,kx]
 rfl
theorem Te (vs:List (Option (Iq))) {dl:List Nat} {st:List (Iq)} {t j:Nat} {p:Iq} (h:dl[t]?=some j) (h2:st[t]?=some p):XM (dl.take (t+1)) (st.take (t+1)) vs=(XM (dl.take t) (st.take t) vs).set j (some p):=by
 have l1:=(gS.1 h).1
 have l2:=(gS.1 h2).1
 unfold XM
 rw [ay,ay,h,h2,ff,ff,List.zip_append (by simp;omega),kx]
 rfl
def rgS (ps:List Prt) (bs:List Bk) (st:List (Iq)) (t:Nat):List (Option (Iq)):=AiS ps bs  (XM (Bn bs) st (List.replicate bs.length none)) ((Dd bs).take t)
def rgN (ps:List Prt) (bs:List Bk) (st:List (Iq)) (t:Nat):Iq:=tkW ps bs  (rgS ps bs st t) ((Dd bs)[t]?.getD 0)
def DK (ps:List Prt) (bs:List Bk) (st:List (Iq)):Bool:=st.any Gm || (List.range (Dd bs).length).any fun t=>Gm (rgN ps bs st t)
def rgV (ps:List Prt) (bs:List Bk) (st:List (Iq)):List (Iq):=gW (rgS ps bs st  (Dd bs).length)
theorem Ov (ps:List Prt) (bs:List Bk) (st:List (Iq)) (t:Nat):(rgS ps bs st t).length=bs.length:=by unfold rgS;rw [Wl,MI,gg]
theorem Wm (h:(Dd bs)[t]?=some j):rgS ps bs st  (t+1)=(rgS ps bs st t).set j (some (rgN ps bs st t)):=by
 unfold rgN
 rw [h]
 exact Abb ps bs  _ h
theorem AiT (ps:List Prt) (bs:List Bk) (st:List (Iq)):rgS ps bs st  0=XM (Bn bs) st (List.replicate bs.length none):=rfl
structure Abc (vs:List (Option (Iq))) (D:Nat→Prop):Prop where
 at_:∀ i,D i→∃ p,vs[i]?=some (some p)∧IwS p LB LB
theorem Abc.set {vs:List (Option (Iq))} {D D':Nat→Prop} (h:Abc vs D) {j:Nat} {p:Iq} (hj:j<vs.length) (hp:IwS p LB LB) (hD:∀ i,D' i→D i∨i=j):Abc (vs.set j (some p)) D':=⟨fun i hi=>by
 rw [cq]
 by_cases hij:j=i
 ·rw [if_pos hij,if_pos hj]
  exact ⟨p,rfl,hp⟩
 ·rw [if_neg hij]
  rcases hD i hi with h1|h1
  ·exact h.at_ i h1
  ·exact absurd h1.symm hij⟩
theorem Aeb {k:Nat} {p:Iq} (h:st[k]?=some p) (hl:Gm p=true):DK ps bs st  = true:=by
 unfold DK
 rw [fa]
 exact .inl (List.any_eq_true.2 ⟨p,gM h,hl⟩)
theorem Aec (h:t<(Dd bs).length) (hl:Gm (rgN ps bs st t)=true):DK ps bs st  = true:=by
 unfold DK
 rw [fa]
 exact .inr (List.any_eq_true.2 ⟨t,List.mem_range.2 h,hl⟩)
theorem Aed (h1:∀ p∈st,Gm p=false) (h2:∀ t,t<(Dd bs).length→Gm (rgN ps bs st t)=false):DK ps bs st  = false:=by
 unfold DK
 rw [kt]
 exact ⟨List.any_eq_false.2 fun p hp=>by rw [h1 p hp];decide,List.any_eq_false.2 fun t ht=>by rw [h2 t (List.mem_range.1 ht)];decide⟩
theorem Wn (hn:∀ p∈st,IwS p LB LB) (hl:st.length=(Bn bs).length):Abc (XM (Bn bs) st (List.replicate bs.length none)) (AiE bs 0):=by
 have key:∀ t,t≤(Bn bs).length→Abc (XM ((Bn bs).take t) (st.take t) (List.replicate bs.length none)) (fun i=>i∈(Bn bs).take t):=fun t=>by
  induction t with
  | zero=>intro _;exact ⟨fun i hi=>by simp at hi⟩
  | succ t ih =>
   intro ht
   obtain ⟨j,hj⟩:∃ j,(Bn bs)[t]?=some j:=⟨_,gE (by omega)⟩
   obtain ⟨p,hp⟩:∃ p,st[t]?=some p:=⟨_,gE (by omega)⟩
   have h1:=hn p (gM hp)
   rw [Te _ hj hp]
   refine (ih (by omega)).set (by rw [MI,gg];have:=gM hj;unfold Bn at this;rw [List.mem_filter,jo] at this;exact this.1) h1 fun i hi=>?_
   rw [ay,hj] at hi
   simpa using hi
 have h:=key (Bn bs).length (aa _)
 rw [bc,al (by omega)] at h
 refine ⟨fun i hi=>h.at_ i ?_⟩
 rcases hi with ⟨h1,h2⟩|h1
 ·unfold Bn
  rw [List.mem_filter,jo,h2]
  exact ⟨h1,rfl⟩
 ·simp at h1
theorem Tf (h:Abc (rgS ps bs st t) (AiE bs t)) (hj:(Dd bs)[t]?=some j) (hsm:IwS (rgN ps bs st t) LB LB):Abc (rgS ps bs st  (t+1)) (AiE bs (t+1)):=by
 rw [Wm hj]
 refine h.set (by rw [Ov];exact (SI hj).1) hsm fun i hi=>?_
 rcases hi with h1|h1
 ·exact .inl (.inl h1)
 ·rw [ay,hj] at h1
  rcases List.mem_append.1 h1 with h1|h1
  ·exact .inl (.inr h1)
  ·exact .inr (by simpa using h1)
theorem Aee (he:Bc ps bs os=0) {st:List (Iq)} (h:Abc (rgS ps bs st  (Dd bs).length) (AiE bs (Dd bs).length)) {i:Nat} (hi:i<bs.length):∃ p,(rgS ps bs st  (Dd bs).length)[i]?=some (some p)∧IwS p LB LB:=by
 refine h.at_ i ?_
 by_cases hk:CO bs i=2
 ·exact .inl ⟨hi,hk⟩
 ·refine .inr ?_
  rw [bc]
  exact Aip (Su he).2.2 hi hk
theorem Im {l:List Iq} {k:Nat} (h:l[k]?=some a):((Av (dIw false) l).drop (k*6)).take 6=dIw false a:=FO (f:=dIw false) (s:=6) (fun _=>rfl) h
structure AmK (ps:List Prt) (bs:List Bk) (vs:List (Option Iq)) (y:Bk):Prop where
 hk:y.kind=0∨y.kind=1∨y.kind=3∨y.kind=4∨y.kind=5∨y.kind=6∨y.kind=7∨y.kind=8∨y.kind=9∨y.kind=10∨y.kind=11
 args:y.kind≠0→∀ (k:Nat) (a:Int),y.args[k]?=some a→∃ p,0≤a∧a.toNat<bs.length∧vs[a.toNat]?=some (some p)∧(LF vs y)[k]?=some p
 len:y.args.length≤2
 hl:∀ k:Nat,(k=0∧y.kind≠0∧y.kind≠1∨k=1∧(y.kind=3∨y.kind=4∨y.kind=7∨y.kind=8∨y.kind=9))→∃ p i,(LF vs y)[k]?=some p∧y.args[k]?=some ((i:Nat):Int)∧(gW vs)[i]?=some p
 hs:∀ p∈LF vs y,IwS p LB LB
 hin:y.kind=0→∃ (i:Nat) (pp:Prt),y.args[0]?=some (i:Int)∧ps[i]?=some pp∧Rh pp
 hsv:(y.kind=1∨y.kind=6∨y.kind=11)→DE y.vn y.ve
 hsu:y.kind=11→DE y.un y.ue
 hcl:y.kind=11→Ir (Ae y.vn 0 y.ve) (Ae y.un 0 y.ue)≤0
 sm:IwS (Bv y (LF vs y) ps) LC LC
theorem Abd (he:Bc ps bs os=0) {vs:List (Option Iq)} {j:Nat} {y:Bk} (hy:bs[j]?=some y) (hk2:y.kind≠2) (hv:y.kind≠0→∀ a∈y.args,0≤a→a<(bs.length:Int)→∃ p,vs[a.toNat]?=some (some p)∧IwS p LB LB):AmK ps bs vs y:=by
 have hK:=Wb he hy
 have hA:=GY he hy
 have hlen:y.args.length≤2:=by
  have h1:=hA.1
  have h2:=hA.2.1
  unfold Bp at h1 h2
  (repeat' split at h2) <;> omega
 have args:y.kind≠0→∀ (k:Nat) (a:Int),y.args[k]?=some a→∃ p,0≤a∧a.toNat<bs.length∧vs[a.toNat]?=some (some p)∧(LF vs y)[k]?=some p∧IwS p LB LB:=fun h0 k a ha=>by
  have hm:=gM ha
  have hb:=hA.2.2 a hm
  rw [show Ei ps.length bs.length y.kind=bs.length from if_neg h0] at hb
  obtain ⟨p,hp,hsm⟩:=hv h0 a hm hb.1 hb.2
  exact ⟨p,hb.1,by omega,hp,by unfold LF;rw [if_neg h0,ag,ha,cw,hp];rfl,hsm⟩
 have hs:y.kind≠0→∀ p∈LF vs y,IwS p LB LB:=fun h0 p hp=>by
  obtain ⟨k,hk⟩:=List.mem_iff_getElem?.1 hp
  have hk':=hk
  unfold LF at hk'
  rw [if_neg h0,ag,ct] at hk'
  obtain ⟨a,ha,_⟩:=hk'
  obtain ⟨q,_,_,_,h4,h5⟩:=args h0 k a ha
  rw [hk] at h4
  cases h4
  exact h5
 have hin:y.kind=0→∃ (i:Nat) (pp:Prt),y.args[0]?=some (i:Int)∧ps[i]?=some pp∧Rh pp:=fun h0=>by
  have h1:=hA.2.1
  rw [h0] at h1
  have hl1:y.args.length=1:=by unfold Bp at h1;(repeat' split at h1) <;> omega
  obtain ⟨a,ha⟩:∃ a,y.args[0]?=some a:=⟨_,gE (by omega)⟩
  have hb:=hA.2.2 a (gM ha)
  rw [show Ei ps.length bs.length y.kind=ps.length from if_pos h0] at hb
  obtain ⟨p,hp⟩:∃ p,ps[a.toNat]?=some p:=⟨_,gE (by omega)⟩
  exact ⟨a.toNat,p,by rw [ha];congr 1;omega,hp,Td he hp⟩
 have hsv:(y.kind=1∨y.kind=6∨y.kind=11)→DE y.vn y.ve:=fun h=>LQ he hy (by unfold OJ;rcases h with h|h|h <;> rw [h] <;> rfl)
 have hsu:y.kind=11→DE y.un y.ue:=fun h=>(MF he hy h).2.1
 have h0s:y.kind=0→∀ p∈([]:List Iq),IwS p LB LB:=fun _ p hp=>by cases hp
 have hk3:y.kind=0∨y.kind=1∨y.kind=3∨y.kind=4∨y.kind=5∨y.kind=6∨y.kind=7∨y.kind=8∨y.kind=9∨y.kind=10∨y.kind=11:=by clear hin args hs;omega
 refine ⟨hk3,fun h0 k a ha=>?_,hlen,fun k hk=>?_,?_,hin,hsv,hsu,fun h=>(MF he hy h).2.2,?_⟩
 ·obtain ⟨p,h1,h2,h3,h4,_⟩:=args h0 k a ha
  exact ⟨p,h1,h2,h3,h4⟩
 ·have h0:y.kind≠0:=by omega
  have hkl:k<y.args.length:=by
   have h1:=hA.2.1
   unfold Bp at h1
   (repeat' split at h1) <;> omega
  obtain ⟨a,ha⟩:∃ a,y.args[k]?=some a:=⟨_,gE hkl⟩
  obtain ⟨p,h1,h2,h3,h4,_⟩:=args h0 k a ha
  exact ⟨p,a.toNat,h4,by rw [ha];congr 1;omega,AmJ h3⟩
 ·by_cases h0:y.kind=0
  ·unfold LF;rw [if_pos h0];exact h0s h0
  ·exact hs h0
 ·unfold Bv
  by_cases h0:y.kind=0
  ·rw [if_pos h0]
   obtain ⟨i,pp,q1,q3,q4⟩:=hin h0
   rw [q1]
   simp only [bh,am,q3,cw]
   exact q4.iw.more (by decide) (by decide)
  ·rw [if_neg h0]
   exact GE (hs h0) hsv hsu (by clear hin args hs;omega)
theorem Wo (he:Bc ps bs os=0) {vs:List (Option Iq)} {t j:Nat} (hj:(Dd bs)[t]?=some j) (hv:Abc vs (AiE bs t)):∃ y,bs[j]?=some y∧y.kind≠2∧AmK ps bs vs y:=by
 obtain ⟨hjl,hk2⟩:=SI hj
 obtain ⟨y,hy⟩:∃ y,bs[j]?=some y:=⟨_,gE hjl⟩
 rw [LA hy] at hk2
 refine ⟨y,hy,hk2,Abd he hy hk2 fun h0 a ha a0 a1=>?_⟩
 have hsplit:Dd bs=(Dd bs).take t++j::(Dd bs).drop (t+1):=by
  obtain ⟨hlt,he⟩:=gS.1 hj
  rw [←he,←dv hlt,ic]
 have hd:=Ads hsplit (a:=a) (by rw [AdG hy h0];exact ha)
 exact hv.at_ a.toNat (hd.imp (fun h=>⟨by omega,h⟩) id)
theorem AiU {P:Program} {G:World→Prop} {o:Oper} {F:Frm} {ts:Array TypeId} {x y z u:Operand} {k:IntKind} {p q r:Int} (ho:o.op=.call { callee:=.builtin .max,args:=#[x,y,z,u],argTypes:=ts }) (hx:F.ev x=.one (.d (.val (.int k p)))) (hy:F.ev y=.one (.d (.val (.int k q)))) (hz:F.ev z=.one (.d (.val (.int k r)))) (hu:F.ev u=.one (.d (.val (.int k s)))):AN P G o F H (.one (.d (.val (.int k (max (max (max p q) r) s))))) []:=BN fun b0 m a hp hcx hor=>by
 have ex:=Dg (m:=m) (v:=a.eval x) (by rw [←hx];exact Ba hor (by rw [ho];simp [Op.operands,Call.operands]))
 have ey:=Dg (m:=m) (v:=a.eval y) (by rw [←hy];exact Ba hor (by rw [ho];simp [Op.operands,Call.operands]))
 have ez:=Dg (m:=m) (v:=a.eval z) (by rw [←hz];exact Ba hor (by rw [ho];simp [Op.operands,Call.operands]))
 have eu:=Dg (m:=m) (v:=a.eval u) (by rw [←hu];exact Ba hor (by rw [ho];simp [Op.operands,Call.operands]))
 refine ⟨_,?_,Br.val rfl⟩
 unfold execOp
 have key:∀ a b:Int,(if a<b then b else a)=max a b:=fun a b=>by split <;> omega
 simp [ho,resolve,invoke,builtin,ex,ey,ez,eu,Builtin.max_,Builtin.max2,key]
theorem AfF (h:p:=by
 rw [if_pos hs,if_pos hs] at VA
 repeat' (with_reducible first|refine qq ?_|(refine Tx 0 ?_;refine gN xBo <| gN (xAl Aj) ?_)|(refine Tx 1 ?_;refine gO xL <| gO (xCl func20 (VA)) <| gO xMt <| gO (by exact DB rfl rfl rfl) <| gO xEx <| gN (xAl Aj) <| gZ (xSk Aa) <| gO xA ?_)|(refine Tx 2 ?_;refine gO xL <| gZ (xSk Aa) ?_))
 exact Ax rfl (.cons_ (rvW Aa rfl) .nil_)):p:=h
theorem MJ (n e:Int) (hs:DE n e):CV prog Ah 235 [.agg [dI n,dI e]] [aDy false (Ae n 0 e).1 (Ae n 0 e).2]:=by
 refine cvz func235 ntmps235 ?_
 have VA:=QT n e
 exact AfF
theorem AmL (h:p:=by first|exact xCl func212 (B1)|exact xCl func212 (B2)):p:=h
theorem Tg (a:Iq) (n1:Nf a.1.1 a.1.2) (n2:Nf a.2.1 a.2.2) (l1:(Ab a.1.1.natAbs).length≤40000) (l2:(Ab a.2.1.natAbs).length≤40000):CV prog Ah 178 [aIw false a] [aB (Gm a)]:=by
 refine cvz func178 ntmps178 ?_
 have B1:=ME a.1.1 a.1.2 n1 l1
 have B2:=ME a.2.1 a.2.2 n2 l2
 have hm:decide ((4096:Int)<max (max (max ((Bl a.1.1.natAbs:Nat):Int) (a.1.2:Int)) ((Bl a.2.1.natAbs:Nat):Int)) (a.2.2:Int))=Gm a:=by unfold Gm Dm SF;rw [Bool.eq_iff_iff,fa,decide_eq_true_eq,decide_eq_true_eq,decide_eq_true_eq];omega
 repeat' (with_reducible first|refine qq ?_|(refine Tx 0 ?_;refine gN xBo <| gO xA ?_)|(refine Ca (id:=1) AV (by kernel_rfl) ?_;refine gP xF <| gP xL <| gP AmL <| gP xF <| gP xF <| gP xD <| gP xF <| gP xL <| gP AmL <| gP xF <| gP xF <| gP xD <| gP (by first|exact AiU rfl rfl rfl rfl rfl|exact HW rfl rfl rfl) <| gP (by first|exact Qt rfl rfl rfl hm|exact xGt) <| gP xA ?_;refine Ke ?_))
 exact Ax rfl (.cons_ (DD rfl rfl) .nil_)
theorem FD (h:p:=by
 exact Ax rfl (.cons_ (rvJ Ac rfl) .nil_)):p:=h
theorem CD (t u:Bool) (y:Bk) (vals:List Iq) (k:Nat) {i:Nat} {p:Iq} (hk:y.args[k]?=some (i:Int)) (hp:vals[i]?=some p) (ha:y.args.length≤1000000) (hv:vals.length≤1000000):CV prog Ah 234 [aI (k:Int),.one (.ptr true [.row u 6 vals.length (Av (dIw false) vals)]),.one (.ptr true (dBk t y))] [aIw false p]:=by
 refine cvz func234 ntmps234 ?_
 have l1:=(gS.1 hk).1
 have l2:=(gS.1 hp).1
 repeat' (with_reducible first|refine qq ?_|(refine Tx 0 ?_;refine gN (xAl Ak) ?_)|(refine AG (id:=1) 8 AV (by kernel_rfl) ?_;dsimp only [List.take,List.drop];refine gP xD <| gP xF <| gP xD <| gP xM <| gP (by first|exact xIr Ad (AI hk)|exact xIr Ad (Im hp)) <| gP xD <| gP (xIr Ag (Im hp)) <| gP xL ?_;refine Ke ?_;refine gZ (xSk Ac) ?_))
 exact FD
theorem GF (k:p') (h:Hd9 p'→p:=by with_reducible first|(intro Z9;refine qq ?_;exact Z9.o)|(intro Z9;refine Tx 0 ?_;refine gN xBo <| gN xBo <| gN xBo <| gN (xAl Ak) ?_;exact Z9.o)|(intro Z9;refine Tx 1 ?_;refine gO (by first|exact xMf [(2,0,none),(1,0,none)]|exact CI rfl (by repeat' first|exact Bh rfl rfl|refine Au rfl rfl rfl ?_)) <| gO xA ?_;exact Z9.o)|(intro Z9;refine Tx 2 ?_;refine gO xF <| gO xD ?_;exact Z9.o)|(intro Z9;refine Tx 3 ?_;refine gO xEq <| gO xA ?_;exact Z9.o)|fail):p:=h ⟨k⟩
theorem Hr (k:p') (h:Hd9 p'→p:=by with_reducible first|(intro Z9;refine Tx 6 ?_;refine gO xEq <| gO xA ?_;exact Z9.o)|fail):p:=h ⟨k⟩
theorem AmM (h:p:=by first|exact xCl func235 (RV)|exact xCl func235 (RU)):p:=h
theorem XN (t:Bool) (ps:List Prt) (bs:List Bk) (os:List Int) (y:Bk) (vals l:List Iq) (hk:y.kind=0∨y.kind=1∨y.kind=3∨y.kind=4∨y.kind=5∨y.kind=6∨y.kind=7∨y.kind=8∨y.kind=9∨y.kind=10∨y.kind=11) (ha:y.args.length≤1000000) (hvl:vals.length≤1000000) (hpl:ps.length≤1000000)
  (hl:∀ k:Nat,(k=0∧y.kind≠0∧y.kind≠1∨k=1∧(y.kind=3∨y.kind=4∨y.kind=7∨y.kind=8∨y.kind=9))→∃ p i,l[k]?=some p∧y.args[k]?=some ((i:Nat):Int)∧vals[i]?=some p) (hs:∀ p∈l,IwS p 20000 20000)
  (hin:y.kind=0→∃ (i:Nat) (pp:Prt),y.args[0]?=some (i:Int)∧ps[i]?=some pp∧Rh pp)
  (hsv:(y.kind=1∨y.kind=6∨y.kind=11)→DE y.vn y.ve) (hsu:y.kind=11→DE y.un y.ue) (hcl:y.kind=11→Ir (Ae y.vn 0 y.ve) (Ae y.un 0 y.ue)≤0):CV prog Ah 179 [aDg t ps bs os,.agg (dBk t y),.one (.row true 6 vals.length (Av (dIw false) vals))] [aIw false (Bv y l ps)]:=by
 refine cvz func179 ntmps179 ?_
 rcases hk with h|h|h|h|h|h|h|h|h|h|h
 ·
  obtain ⟨i0,pp,q0,w0,ps0⟩:=hin h
  have l1:=(gS.1 q0).1
  have l3:=(gS.1 w0).1
  have f0:=ps0.l0
  have f1:=ps0.le
  have f2:=ps0.h1
  have f3:=ps0.f0
  have f4:=ps0.f1
  have IN:=ST pp.lo pp.hi (by omega) (by omega)
  have OF:=Ff 1 (by decide) (by decide)
  have SH:=BH 1 0 (-pp.fr) ⟨by decide,fun h=>absurd rfl h⟩ (lT (AC (k:=2) (by decide)) (by decide)) (by omega)
  have SC:=Hc (CC [(pp.lo,0),(pp.hi,0)]) (Ae 1 0 (-pp.fr)) (Fz (Il pp.lo (by omega) (by decide)) (Il pp.hi (by omega) (by decide))).2.2 ((Rj (by decide) (by decide) f3 f4).more (by decide) (by decide))
  rw [ps0.scale] at SC
  have hb:Bv y l ps=Ou pp:=by unfold Bv;rw [if_pos h,q0];simp [w0]
  rw [hb]
  repeat' (with_reducible first|refine GF ?_|(refine AG (id:=4) 9 AV (by kernel_rfl) ?_;dsimp only [List.take,List.drop];refine gP xF <| gP xD <| gP xF <| gP xD <| gP (xIr Ad (AI q0)) <| gP xD <| gP (xIr Di (NJ w0)) <| gP xL <| gQ (xAl Nu) ?_;refine Ke ?_;refine gZ (xSk Ic) ?_)|(refine AG (id:=5) 11 AV (by kernel_rfl) ?_;dsimp only [List.take,List.drop];refine gP xF <| gP xD <| gP xF <| gP xD <| gP (xCl func139 (IN)) <| gP (xCl func68 (OF)) <| gP xF <| gP xD <| gP (by first|exact Vj rfl rfl (by omega)|exact AeX rfl rfl) <| gP (xCl func21 (SH)) <| gP (xCl func138 (SC)) ?_;refine Ke ?_;refine gZ (xSk Ac) ?_))
  exact FD
 ·
  have hv:=hsv (by omega)
  have RV:=MJ y.vn y.ve hv
  have sv:=(FB hv).more LBx LBx
  have C:=Dr (Ae y.vn 0 y.ve) sv.ok sv.lz
  have hb:Bv y l ps=((Ae y.vn 0 y.ve),(Ae y.vn 0 y.ve)):=by unfold Bv Fg;simp [h]
  rw [hb]
  repeat' (with_reducible first|refine GF ?_|refine Hr ?_|(refine Tx 7 ?_;refine gO xF <| gO xL <| gO (xCl func235 (RV)) <| gO (xCl func140 (C)) <| gZ (xSk Ac) ?_))
  exact FD
 ·
  obtain ⟨p,i0,h0,q0,r0⟩:=hl 0 (by omega)
  have sp:=(hs p (gM h0))
  have A0:=CD t true y vals 0 q0 r0 ha hvl
  obtain ⟨q,i1,h1,q1,r1⟩:=hl 1 (by omega)
  have sq:=(hs q (gM h1))
  have A1:=CD t true y vals 1 q1 r1 ha hvl
  have C:=Rb p q sp sq
  have hb:Bv y l ps=Afs p q:=by unfold Bv Fg;simp [h,h0,h1]
  rw [hb]
  repeat' (with_reducible first|refine GF ?_|refine Hr ?_|(refine Tx 8 ?_;refine gO xEq <| gO xA ?_)|(refine Tx 9 ?_;refine gO xM <| gO (xCc func234 A0 (args:=[_]) rfl) <| gO xM <| gO (xCc func234 A1 (args:=[_]) rfl) <| gO (xCl func143 (C)) <| gZ (xSk Ac) ?_))
  exact FD
 ·
  obtain ⟨p,i0,h0,q0,r0⟩:=hl 0 (by omega)
  have sp:=(hs p (gM h0))
  have A0:=CD t true y vals 0 q0 r0 ha hvl
  obtain ⟨q,i1,h1,q1,r1⟩:=hl 1 (by omega)
  have sq:=(hs q (gM h1))
  have A1:=CD t true y vals 1 q1 r1 ha hvl
  have C:=Wi p q sp sq
  have hb:Bv y l ps=AiF p q:=by unfold Bv Fg;simp [h,h0,h1]
  rw [hb]
  repeat' (with_reducible first|refine GF ?_|refine Hr ?_|(refine Tx 8 ?_;refine gO xEq <| gO xA ?_)|(refine Tx 10 ?_;refine gO xEq <| gO xA ?_)|(refine Tx 11 ?_;refine gO xM <| gO (xCc func234 A0 (args:=[_]) rfl) <| gO xM <| gO (xCc func234 A1 (args:=[_]) rfl) <| gO (xCl func144 (C)) <| gZ (xSk Ac) ?_))
  exact FD
 ·
  obtain ⟨p,i0,h0,q0,r0⟩:=hl 0 (by omega)
  have sp:=(hs p (gM h0))
  have A0:=CD t true y vals 0 q0 r0 ha hvl
  have C:=Ra p sp
  have hb:Bv y l ps=AdK p:=by unfold Bv Fg;simp [h,h0]
  rw [hb]
  repeat' (with_reducible first|refine GF ?_|refine Hr ?_|(refine Tx 8 ?_;refine gO xEq <| gO xA ?_)|(refine Tx 10 ?_;refine gO xEq <| gO xA ?_)|(refine Tx 12 ?_;refine gO xEq <| gO xA ?_)|(refine Tx 14 ?_;refine gO xEq <| gO xA ?_)|(refine Tx 15 ?_;refine gO xM <| gO (xCc func234 A0 (args:=[_]) rfl) <| gO (xCl func146 (C)) <| gZ (xSk Ac) ?_))
  exact FD
 ·
  obtain ⟨p,i0,h0,q0,r0⟩:=hl 0 (by omega)
  have sp:=(hs p (gM h0))
  have A0:=CD t true y vals 0 q0 r0 ha hvl
  have hv:=hsv (by omega)
  have RV:=MJ y.vn y.ve hv
  have sv:=(FB hv).more LBx LBx
  have C:=Hc p (Ae y.vn 0 y.ve) sp sv
  have hb:Bv y l ps=LV p (Ae y.vn 0 y.ve):=by unfold Bv Fg;simp [h,h0]
  rw [hb]
  repeat' (with_reducible first|refine GF ?_|refine Hr ?_|(refine Tx 8 ?_;refine gO xEq <| gO xA ?_)|(refine Tx 10 ?_;refine gO xEq <| gO xA ?_)|(refine Tx 12 ?_;refine gO xEq <| gO xA ?_)|(refine Tx 14 ?_;refine gO xEq <| gO xA ?_)|(refine Tx 16 ?_;refine gO xEq <| gO xA ?_)|(refine Tx 18 ?_;refine gO xEq <| gO xA ?_)|(refine AG (id:=19) 6 AV (by kernel_rfl) ?_;dsimp only [List.take,List.drop];refine gP xM <| gP (xCc func234 A0 (args:=[_]) rfl) <| gP xF <| gP xL <| gP (xCl func235 (RV)) <| gP (xCl func138 (C)) ?_;refine Ke ?_;refine gZ (xSk Ac) ?_))
  exact FD
 ·
  obtain ⟨p,i0,h0,q0,r0⟩:=hl 0 (by omega)
  have sp:=(hs p (gM h0))
  have A0:=CD t true y vals 0 q0 r0 ha hvl
  obtain ⟨q,i1,h1,q1,r1⟩:=hl 1 (by omega)
  have sq:=(hs q (gM h1))
  have A1:=CD t true y vals 1 q1 r1 ha hvl
  have C:=Re p q sp sq
  have hb:Bv y l ps=Aft p q:=by unfold Bv Fg;simp [h,h0,h1]
  rw [hb]
  repeat' (with_reducible first|refine GF ?_|refine Hr ?_|(refine Tx 8 ?_;refine gO xEq <| gO xA ?_)|(refine Tx 10 ?_;refine gO xEq <| gO xA ?_)|(refine Tx 12 ?_;refine gO xEq <| gO xA ?_)|(refine Tx 13 ?_;refine gO xM <| gO (xCc func234 A0 (args:=[_]) rfl) <| gO xM <| gO (xCc func234 A1 (args:=[_]) rfl) <| gO (xCl func145 (C)) <| gZ (xSk Ac) ?_))
  exact FD
 ·
  obtain ⟨p,i0,h0,q0,r0⟩:=hl 0 (by omega)
  have sp:=(hs p (gM h0))
  have A0:=CD t true y vals 0 q0 r0 ha hvl
  obtain ⟨q,i1,h1,q1,r1⟩:=hl 1 (by omega)
  have sq:=(hs q (gM h1))
  have A1:=CD t true y vals 1 q1 r1 ha hvl
  have C:=Rc p q sp sq
  have hb:Bv y l ps=Afu p q:=by unfold Bv Fg;simp [h,h0,h1]
  rw [hb]
  repeat' (with_reducible first|refine GF ?_|refine Hr ?_|(refine Tx 8 ?_;refine gO xEq <| gO xA ?_)|(refine Tx 10 ?_;refine gO xEq <| gO xA ?_)|(refine Tx 12 ?_;refine gO xEq <| gO xA ?_)|(refine Tx 14 ?_;refine gO xEq <| gO xA ?_)|(refine Tx 16 ?_;refine gO xEq <| gO xA ?_)|(refine Tx 18 ?_;refine gO xEq <| gO xA ?_)|(refine Tx 20 ?_;refine gO xEq <| gO xA ?_)|(refine Tx 21 ?_;refine gO xM <| gO (xCc func234 A0 (args:=[_]) rfl) <| gO xM <| gO (xCc func234 A1 (args:=[_]) rfl) <| gO (xCl func148 (C)) <| gZ (xSk Ac) ?_))
  exact FD
 ·
  obtain ⟨p,i0,h0,q0,r0⟩:=hl 0 (by omega)
  have sp:=(hs p (gM h0))
  have A0:=CD t true y vals 0 q0 r0 ha hvl
  obtain ⟨q,i1,h1,q1,r1⟩:=hl 1 (by omega)
  have sq:=(hs q (gM h1))
  have A1:=CD t true y vals 1 q1 r1 ha hvl
  have C:=Rd p q sp sq
  have hb:Bv y l ps=AdL p q:=by unfold Bv Fg;simp [h,h0,h1]
  rw [hb]
  repeat' (with_reducible first|refine GF ?_|refine Hr ?_|(refine Tx 8 ?_;refine gO xEq <| gO xA ?_)|(refine Tx 10 ?_;refine gO xEq <| gO xA ?_)|(refine Tx 12 ?_;refine gO xEq <| gO xA ?_)|(refine Tx 14 ?_;refine gO xEq <| gO xA ?_)|(refine Tx 16 ?_;refine gO xEq <| gO xA ?_)|(refine Tx 18 ?_;refine gO xEq <| gO xA ?_)|(refine Tx 20 ?_;refine gO xEq <| gO xA ?_)|(refine Tx 22 ?_;refine gO xEq <| gO xA ?_)|(refine Tx 23 ?_;refine gO xM <| gO (xCc func234 A0 (args:=[_]) rfl) <| gO xM <| gO (xCc func234 A1 (args:=[_]) rfl) <| gO (xCl func149 (C)) <| gZ (xSk Ac) ?_))
  exact FD
 ·
  obtain ⟨p,i0,h0,q0,r0⟩:=hl 0 (by omega)
  have sp:=(hs p (gM h0))
  have A0:=CD t true y vals 0 q0 r0 ha hvl
  have C:=Rf p sp
  have hb:Bv y l ps=QX p:=by unfold Bv Fg;simp [h,h0]
  rw [hb]
  repeat' (with_reducible first|refine GF ?_|refine Hr ?_|(refine Tx 8 ?_;refine gO xEq <| gO xA ?_)|(refine Tx 10 ?_;refine gO xEq <| gO xA ?_)|(refine Tx 12 ?_;refine gO xEq <| gO xA ?_)|(refine Tx 14 ?_;refine gO xEq <| gO xA ?_)|(refine Tx 16 ?_;refine gO xEq <| gO xA ?_)|(refine Tx 17 ?_;refine gO xM <| gO (xCc func234 A0 (args:=[_]) rfl) <| gO (xCl func147 (C)) <| gZ (xSk Ac) ?_))
  exact FD
 ·
  obtain ⟨p,i0,h0,q0,r0⟩:=hl 0 (by omega)
  have sp:=(hs p (gM h0))
  have A0:=CD t true y vals 0 q0 r0 ha hvl
  have hv:=hsv (by omega)
  have RV:=MJ y.vn y.ve hv
  have sv:=(FB hv).more LBx LBx
  have hu:=hsu h
  have RU:=MJ y.un y.ue hu
  have su:=(FB hu).more LBx LBx
  have C:=SW p (Ae y.vn 0 y.ve) (Ae y.un 0 y.ue) sp sv su (hcl h)
  have hb:Bv y l ps=UA p (Ae y.vn 0 y.ve) (Ae y.un 0 y.ue):=by unfold Bv Fg;simp [h,h0]
  rw [hb]
  repeat' (with_reducible first|refine GF ?_|refine Hr ?_|(refine Tx 8 ?_;refine gO xEq <| gO xA ?_)|(refine Tx 10 ?_;refine gO xEq <| gO xA ?_)|(refine Tx 12 ?_;refine gO xEq <| gO xA ?_)|(refine Tx 14 ?_;refine gO xEq <| gO xA ?_)|(refine Tx 16 ?_;refine gO xEq <| gO xA ?_)|(refine Tx 18 ?_;refine gO xEq <| gO xA ?_)|(refine Tx 20 ?_;refine gO xEq <| gO xA ?_)|(refine Tx 22 ?_;refine gO xEq <| gO xA ?_)|(refine Mp (id:=24) 13 [(13,11)] AV (by kernel_rfl) ?_;dsimp only [List.take,List.drop];refine gP xM <| gP (xCc func234 A0 (args:=[_]) rfl) <| gP xF <| gP xL <| gP AmM <| gP xF <| gP xL <| gP AmM <| gP (xCl func150 (C)) <| gP xMt <| gP (by exact DB rfl rfl rfl) <| gP xEx <| gQ (xAl Ak) ?_;refine Ke ?_;refine gZ (xSk Ac) <| gO xA ?_)|(refine Tx 25 ?_;refine gO xL <| gZ (xSk Ac) ?_))
  exact FD
abbrev ivQ (q:Rv × Rv):Iq:=(rvP q.1,rvP q.2)
def Wp (qs:List (Rv × Rv)):D:=.row false 6 qs.length (Av (dIr false) qs)
def AmN (l:List Iq):A:=.one (.row false 6 l.length (Av (dIw false) l))
abbrev ivC (q:Rv × Rv):Bool:=ivR q.1 q.2
def rgE (ps:List Prt) (bs:List Bk) (os:List Int) (qs:List (Rv × Rv)):Int :=
 if Bc ps bs os≠0 then Bc ps bs os else if qs.length≠(Bn bs).length then 11 else if qs.all ivC=false then 2 else if DK ps bs (qs.map ivQ)=true then 4 else 0
section
variable {ps:List Prt} {bs:List Bk} {os:List Int} {qs:List (Rv × Rv)}
theorem rgE1 (h:Bc ps bs os≠0):rgE ps bs os qs=Bc ps bs os:=by unfold rgE;rw [if_pos h]
theorem rgE2 (h:Bc ps bs os=0) (h2:qs.length≠(Bn bs).length):rgE ps bs os qs=11:=by unfold rgE;rw [if_neg (not_not_intro h),if_pos h2]
theorem rgE3 (h:Bc ps bs os=0) (h2:qs.length=(Bn bs).length) (h3:qs.all ivC=false):rgE ps bs os qs=2:=by unfold rgE;rw [if_neg (not_not_intro h),if_neg (not_not_intro h2),if_pos h3]
theorem rgE4 (h:Bc ps bs os=0) (h2:qs.length=(Bn bs).length) (h3:¬ qs.all ivC=false):rgE ps bs os qs=if DK ps bs (qs.map ivQ)=true then 4 else 0:=by unfold rgE;rw [if_neg (not_not_intro h),if_neg (not_not_intro h2),if_neg h3]
end
theorem Rk {qs:List (Rv × Rv)} {k:Nat} (h:qs[k]?=some q):((Av (dIr false) qs).drop (k*6)).take 6=dIr false q:=FO (f:=dIr false) (s:=6) (fun _=>rfl) h
theorem PI (hr:RvL q.1) (hs:RvL q.2) (h:ivC q=true):IwS (ivQ q) 1280000 65536∧dIr false q=dIw false (ivQ q)∧(Ab (rvP q.1).1.natAbs).length≤40000∧(Ab (rvP q.2).1.natAbs).length≤40000:=by
 obtain ⟨e,n1,n2,g,k1,k2⟩:=AaU hr hs h
 exact ⟨⟨AaO (p:=rvP q.1) n1 (k:=40000) (k1 ▸ hr.2) (by decide),AaO (p:=rvP q.2) n2 (k:=40000) (k2 ▸ hs.2) (by decide),g⟩,e,k1 ▸ hr.2,k2 ▸ hs.2⟩
theorem AiV {qs:List (Rv × Rv)} {k:Nat} (h:qs[k]?=some q) (hv:ivC q=false):qs.all ivC=false:=by
 rw [List.all_eq_false]
 exact ⟨q,gM h,by rw [hv];decide⟩
theorem Abe {d:Nat} (h:IwS a n d):Ik a a=a:=by
 obtain ⟨e1,e2,e3⟩:=FA h.s1 h.s2 h.s1 h.s2
 have hle:=h.le
 exact AfB e3 h (by show gv (CC [a.1,a.2,a.1,a.2]).1=_;rw [e1];omega) (by show gv (CC [a.1,a.2,a.1,a.2]).2=_;rw [e2];omega)
theorem Abf (k:p') (h:Hd9 p'→p:=by with_reducible first|(intro Z9;refine Tx 0 ?_;refine gN xBo <| gO xA <| gO xA ?_;exact Z9.o)|(intro Z9;refine Tx 1 ?_;refine gO xL <| gO (xCl func19 (DL)) <| gO xMt <| gO xEx <| gO xEx <| gO xA <| gO xA ?_;exact Z9.o)|(intro Z9;refine Tx 2 ?_;refine gO xM <| gO (xNE Al) ?_;exact Z9.o)|fail):p:=h ⟨k⟩
theorem Aef (h:p:=by first|exact xIr Ag (hra)|exact xIo (i:=i) Ag):p:=h
theorem AfG (k:p') (h:Hd9 p'→p:=by with_reducible first|(intro Z9;refine Tx 18 ?_;refine gO xM <| gO (by first|exact xIr Ad (AI (Oc hi))|exact xIr Ad (hra)|exact xIo (i:=i) Ad) <| gO xD <| gO xA <| gO xA ?_;exact Z9.o)|(intro Z9;refine Tx 19 ?_;refine gO xM <| gO xM <| gO Aef <| gO xL <| gO (xCl func178 (LG)) ?_;exact Z9.o)|fail):p:=h ⟨k⟩
theorem AiW (h:p:=by first|exact AiR rfl rfl rfl rfl Ac tl stV|exact xSk Ac):p:=h
theorem AfH (k:p') (h:Hd9 p'→p:=by with_reducible first|(intro Z9;refine Tx 25 ?_;refine gO (by first|exact xIr Ad (AI (Oc hj))|exact xIo (i:=j) Ad) <| gO xD <| gO xA ?_;exact Z9.o)|(intro Z9;refine AG (id:=26) 11 AV (by kernel_rfl) ?_;dsimp only [List.take,List.drop];refine gP xM <| gP xM <| gP xL <| gP xF <| gP xD <| gP xM <| gP (by first|exact xIr Ai (Dj hy)|exact xIo (i:=j) Ai) <| gP xL <| gP xM <| gP (xCl func179 BL (ha:=by with_unfolding_all first|((repeat' first|exact Bh rfl rfl|refine Au rfl rfl ?_ ?_|refine DM rfl rfl ?_|refine BW rfl rfl ?_|exact AX rfl (fun h=>by cases h)|exact Aba rfl rfl rfl) <;> fail)|fail)) <| gP (xIo (i:=j) Ag) ?_;refine Ke ?_;refine gZ AiW ?_;exact Z9.o)|(intro Z9;refine Tx 27 ?_;refine gO xM <| gO xM <| gO (xIo (i:=j) Ag) <| gO (by first|exact AiQ rfl rfl rfl hat Ac|exact xLa Ac) <| gO (xCl func178 (LG)) ?_;exact Z9.o)|fail):p:=h ⟨k⟩
theorem Ow (h:p:=by
 exact Ax rfl (.cons_ (.tmp (.one (Ho rfl rfl))) (.cons_ (AcU rfl (by decide) rfl) .nil_))):p:=h
theorem XO (h:p:=by first|exact xNt|exact xNg):p:=h
theorem Th (t:Bool) {ps:List Prt} {bs:List Bk} {os:List Int} (hl:EB ps bs os) (qs:List (Rv × Rv)) (hw:∀ q∈qs,RvL q.1∧RvL q.2) (hrl:qs.length≤1000000):CV prog Ah 85 [aDg t ps bs os,.one (Wp qs)] [AmN (okQ (rgE ps bs os qs) (rgV ps bs (qs.map ivQ))),aE (rgE ps bs os qs)]:=by
 refine cvz func85 ntmps85 ?_
 have DL:=(IP t hl (ps:=ps) (bs:=bs) (os:=os)).cv
 have OL:=(VW t hl (ps:=ps) (bs:=bs) (os:=os)).cv
 have hnl:=Cl (Bn bs)
 have hol:=Cl (Dd bs)
 have hl1:=hl.l1
 have hl2:=hl.l2
 have hl3:=hl.l3
 have hob:=Aam (bs:=bs)
 have hdb:=LD bs
 by_cases h0:Bc ps bs os=0
 case neg =>
  rw [if_neg h0] at DL
  have hE:=rgE1 (qs:=qs) h0
  rw [hE,Uy h0]
  repeat' (with_reducible first|refine qq ?_|refine Abf ?_|(refine Tx 3 ?_;refine gO xM <| gO xA <| gO xA ?_))
  exact Ax rfl (.cons_ (.tmp (.one (Ho rfl rfl))) (.cons_ (Acl rfl rfl) .nil_))
 rw [if_pos h0,h0] at DL
 rw [if_pos h0,h0] at OL
 by_cases hL:qs.length=(Bn bs).length
 case neg =>
  have hE:=rgE2 (os:=os) h0 hL
  rw [hE,Uy (by decide)]
  repeat' (with_reducible first|refine qq ?_|refine Abf ?_|(refine Tx 4 ?_;refine gO xM <| gO xN <| gO xM <| gO xN <| gO xNe ?_)|(refine Tx 5 ?_;refine gO (xMi underlying109) <| gO xA <| gO xA ?_))
  exact Ow
 repeat' (with_reducible first|refine qq ?_|refine Abf ?_|(refine Tx 4 ?_;refine gO xM <| gO xN <| gO xM <| gO xN <| gO xNe ?_)|(refine Tx 6 ?_;refine gO xM <| gO xN <| gO xM ?_))
 refine AQ (Bu 1) (Aq (fun n Fr H=>∃ k:Nat,k≤qs.length∧n=qs.length - k∧(∀ q∈qs.take k,ivC q=true)∧Fr=ofL [(1,vd (Wp qs)),(2,vr 0),(6,vd (Bd false (BU (Bn bs)))),(30,vd (Wp qs)),(31,vi qs.length),(32,vi ((k:Nat)))]∧H=[.box 26 [.d (DJ t ps),.d (Dc t bs),.d (Bd t os)]]) (n0:=qs.length) ⟨0,ad _,rfl,(fun r hr=>by simp at hr),rfl,rfl⟩ ?_)
 rintro n Fr H ⟨k,hk,rfl,hv,rfl,rfl⟩
 by_cases hlt:k<qs.length
 case pos =>
  obtain ⟨q,hq⟩:∃ q,qs[k]?=some q:=⟨_,gE hlt⟩
  have hqm:=hw q (gM hq)
  have VA:CV prog Ah 122 [.agg (dIr false q)] [aB (ivC q)]:=GZ q.1 q.2 hqm.1 hqm.2
  cases hb:ivC q
  case false =>
   rw [hb] at VA
   have hE:=rgE3 (os:=os) h0 hL (AiV hq hb)
   rw [hE,Uy (by decide)]
   repeat' (with_reducible first|refine qq ?_|(refine Tx 7 ?_;refine gO xLt ?_)|(refine Tx 8 ?_;refine gO (xIr Ag (Rk hq)) <| gO xL <| gN (xAl Ak) <| gZ (xSk Ac) ?_)|(refine Tx 9 ?_;refine gO xL <| gO (xCl func122 (VA)) <| gO XO ?_)|(refine Tx 10 ?_;refine gO (xMi underlying109) <| gO xA <| gO xA ?_))
   exact Ow
  case true =>
   rw [hb] at VA
   repeat' (with_reducible first|refine qq ?_|(refine Tx 7 ?_;refine gO xLt ?_)|(refine Tx 8 ?_;refine gO (xIr Ag (Rk hq)) <| gO xL <| gN (xAl Ak) <| gZ (xSk Ac) ?_)|(refine Tx 9 ?_;refine gO xL <| gO (xCl func122 (VA)) <| gO XO ?_)|(refine Tx 11 ?_;refine gO xAd <| gO xM ?_))
   refine ⟨_,_,Bu 1,_,?_,k+1,by omega,rfl,Fw hv hq hb,rfl,rfl⟩
   ·omega
 obtain rfl:k=qs.length:=by omega
 rw [bc] at hv
 clear hlt hk
 have hva:¬ qs.all ivC=false:=by rw [ia];exact List.all_eq_true.2 hv
 have hE:=rgE4 (os:=os) h0 hL hva
 have hsl:(qs.map ivQ).length=(Bn bs).length:=by rw [af];exact hL
 repeat' (with_reducible first|refine qq ?_|(refine Tx 7 ?_;refine gO xLt ?_)|(refine Tx 12 ?_;refine gO xL <| gO (xCl func60 (OL)) <| gO xMt <| gO xEx <| gO xEx <| gO xA <| gO xA ?_)|(refine Tx 13 ?_;refine gO xM <| gO (xNE Al) ?_)|(refine Tx 15 ?_;refine gO xF <| gO xD <| gO xN <| gN (by first|exact Tc (n:=bs.length) rfl rfl rfl Ag Ak (by omega) (by decide)|exact Bs rfl rfl rfl Ag Ak (by omega) (by decide)) <| gO xA ?_)|(refine Tx 16 ?_;refine gO xM <| gO xN <| gO xM ?_))
 refine AQ (Bu 2 (h:=by rw [←hnl];exact mB rfl rfl)) (Aq (fun n Fr H=>∃ k:Nat,k≤(Bn bs).length∧n=(Bn bs).length - k∧(∀ p∈(qs.map ivQ).take k,Gm p=false)∧Fr=ofL [(1,vd (Wp qs)),(2,vr 0),(6,vd (Bd false (BU (Bn bs)))),(10,vd (Bd false (BU (Dd bs)))),(11,vo 1 bs.length),(53,vd (Bd false (BU (Bn bs)))),(54,vi ((Bn bs).length)),(55,vi ((k:Nat)))]∧H=[.box 26 [.d (DJ t ps),.d (Dc t bs),.d (Bd t os)],.row 45 6 bs.length (kWs (XM ((Bn bs).take (k)) ((qs.map ivQ).take (k)) (List.replicate bs.length none)))]) (n0:=(Bn bs).length) ⟨0,ad _,rfl,(fun r hr=>by simp at hr),rfl,rfl⟩ ?_)
 rintro n Fr H ⟨k,hk,rfl,hnl2,rfl,rfl⟩
 by_cases hlt:k<(Bn bs).length
 case pos =>
  obtain ⟨i,hi⟩:∃ i,(Bn bs)[k]?=some i:=⟨_,gE hlt⟩
  obtain ⟨q,hq⟩:∃ q,qs[k]?=some q:=⟨_,gE (by omega)⟩
  have hqm:=gM hq
  obtain ⟨sw,hdy,lw1,lw2⟩:=PI (hw q hqm).1 (hw q hqm).2 (hv q hqm)
  have hst:(qs.map ivQ)[k]?=some (ivQ q):=by rw [ag,hq];rfl
  have hra:=Rk hq
  rw [hdy] at hra
  have hil2:=(Od hi).1
  have LG:=Tg (ivQ q) sw.s1.ok sw.s2.ok lw1 lw2
  by_cases hlg:Gm (ivQ q)=true
  case pos =>
   rw [hlg] at LG
   rw [Aeb hst hlg,if_pos rfl] at hE
   rw [hE,Uy (by decide)]
   repeat' (with_reducible first|refine qq ?_|(refine Tx 17 ?_;refine gO xLt ?_)|refine AfG ?_|(refine Tx 20 ?_;refine gO (xMi underlying109) <| gO xA <| gO xA ?_))
   exact Ow
  rw [aw] at hlg
  rw [hlg] at LG
  have sb:=(PH sw hlg)
  have sb2:=sb.more LBx LBx
  have HU:=Oq (ivQ q) (ivQ q) sb2 sb2
  rw [Abe sb] at HU
  have tl:i<(XM ((Bn bs).take (k)) ((qs.map ivQ).take (k)) (List.replicate bs.length none)).length:=by rw [MI,gg];exact hil2
  have stV:(XM ((Bn bs).take (k)) ((qs.map ivQ).take (k)) (List.replicate bs.length none)).set i (some (ivQ q))=(XM ((Bn bs).take (k+1)) ((qs.map ivQ).take (k+1)) (List.replicate bs.length none)):=(Te _ hi hst).symm
  repeat' (with_reducible first|refine qq ?_|(refine Tx 17 ?_;refine gO xLt ?_)|refine AfG ?_|(refine AG (id:=21) 12 AV (by kernel_rfl) ?_;dsimp only [List.take,List.drop];refine gP xM <| gP xM <| gP xM <| gP xM <| gP Aef <| gP xL <| gP xM <| gP xM <| gP Aef <| gP xL <| gP (xCl func142 (HU)) <| gP Aef ?_;refine Ke ?_;refine gZ AiW ?_)|(refine Tx 22 ?_;refine gO xAd <| gO xM ?_))
  refine ⟨_,_,Bu 2,_,by omega,k+1,by omega,rfl,Fw hnl2 hst hlg,rfl,rfl⟩
 obtain rfl:k=(Bn bs).length:=by omega
 clear hlt hk
 rw [al (by omega)] at hnl2
 have HD:=Wn (bs:=bs) (st:=(qs.map ivQ)) (fun p hp=>by obtain ⟨q,hq,rfl⟩:=List.mem_map.1 hp;exact PH (PI (hw q hq).1 (hw q hq).2 (hv q hq)).1 (hnl2 _ hp)) hsl
 rw [←AiT ps bs (qs.map ivQ)] at HD
 rw [bc,al (l:=(qs.map ivQ)) (by omega),←AiT ps bs (qs.map ivQ)]
 repeat' (with_reducible first|refine qq ?_|(refine Tx 17 ?_;refine gO xLt ?_)|(refine Tx 23 ?_;refine gO xM <| gO xN <| gO xM ?_))
 refine AQ (Bu 2 (h:=by rw [←hol];exact mB rfl rfl)) (Aq (fun n Fr H=>∃ k:Nat,k≤(Dd bs).length∧n=(Dd bs).length - k∧Abc (rgS ps bs (qs.map ivQ) (k)) (AiE bs k)∧(∀ s,s<k→Gm (rgN ps bs (qs.map ivQ) s)=false)∧Fr=ofL [(1,vd (Wp qs)),(2,vr 0),(6,vd (Bd false (BU (Bn bs)))),(10,vd (Bd false (BU (Dd bs)))),(11,vo 1 bs.length),(79,vd (Bd false (BU (Dd bs)))),(80,vi ((Dd bs).length)),(81,vi ((k:Nat)))]∧H=[.box 26 [.d (DJ t ps),.d (Dc t bs),.d (Bd t os)],.row 45 6 bs.length (kWs (rgS ps bs (qs.map ivQ) (k)))]) (n0:=(Dd bs).length) ⟨0,ad _,rfl,HD,(fun s hs=>absurd hs (gx s)),rfl,rfl⟩ ?_)
 rintro n Fr H ⟨k,hk,rfl,HK,hgd,rfl,rfl⟩
 by_cases hlt:k<(Dd bs).length
 case pos =>
  obtain ⟨j,hj⟩:∃ j,(Dd bs)[k]?=some j:=⟨_,gE hlt⟩
  obtain ⟨y,hy,hk2,T⟩:=Wo h0 hj HK
  have hjl:=(SI hj).1
  have hvn:rgN ps bs (qs.map ivQ) k=Bv y (LF (rgS ps bs (qs.map ivQ) (k)) y) ps:=by unfold rgN tkW;rw [hj];simp only [bh];rw [hy]
  have hgl:(gW (rgS ps bs (qs.map ivQ) (k))).length=bs.length:=by rw [AaZ,Ov]
  have BL:=XN t ps bs os y (gW (rgS ps bs (qs.map ivQ) (k))) (LF (rgS ps bs (qs.map ivQ) (k)) y) T.hk (by have:=T.len;omega) (by omega) (by omega) T.hl (fun p hp=>(T.hs p hp).more (by decide) (by decide)) T.hin T.hsv T.hsu T.hcl
  have TS:=T.sm
  rw [←hvn] at BL TS
  rw [hgl] at BL
  have LG:=Tg (rgN ps bs (qs.map ivQ) k) TS.s1.ok TS.s2.ok TS.s1.lz TS.s2.lz
  have tl:j<(rgS ps bs (qs.map ivQ) (k)).length:=by rw [Ov];exact hjl
  have stV:(rgS ps bs (qs.map ivQ) (k)).set j (some (rgN ps bs (qs.map ivQ) k))=(rgS ps bs (qs.map ivQ) (k+1)):=(Wm hj).symm
  have hbad:=Aec (ps:=ps) (st:=(qs.map ivQ)) hlt
  have hnx:=Tf HK hj
  have hat:(rgS ps bs (qs.map ivQ) (k+1))[j]?=some (some (rgN ps bs (qs.map ivQ) k)):=by rw [←stV,cq,if_pos rfl,if_pos tl]
  by_cases hlg:Gm (rgN ps bs (qs.map ivQ) k)=true
  case pos =>
   rw [hlg] at LG
   rw [hbad hlg,if_pos rfl] at hE
   rw [hE,Uy (by decide)]
   repeat' (with_reducible first|refine qq ?_|(refine Tx 24 ?_;refine gO xLt ?_)|refine AfH ?_|(refine Tx 28 ?_;refine gO (xMi underlying109) <| gO xA <| gO xA ?_))
   exact Ow
  rw [aw] at hlg
  rw [hlg] at LG
  repeat' (with_reducible first|refine qq ?_|(refine Tx 24 ?_;refine gO xLt ?_)|refine AfH ?_|(refine Tx 29 ?_;refine gO xAd <| gO xM ?_))
  refine ⟨_,_,Bu 2,_,by omega,k+1,by omega,rfl,hnx (PH TS hlg),Aar hgd hlg,rfl,rfl⟩
 obtain rfl:k=(Dd bs).length:=by omega
 clear hlt hk
 rw [Aed hnl2 hgd,if_neg (by decide)] at hE
 rw [hE,Aap rfl]
 have hvE:(rgV ps bs (qs.map ivQ)).length=bs.length:=by unfold rgV;rw [AaZ,Ov]
 unfold AmN
 rw [hvE]
 repeat' (with_reducible first|refine qq ?_|(refine Tx 24 ?_;refine gO xLt ?_)|(refine Tx 30 ?_;refine gO xM <| gO xA <| gO xA ?_))
 exact Ax rfl (.cons_ (.tmp (.one (Aba rfl rfl rfl))) (.cons_ (Gl rfl rfl) .nil_))
section
variable {ps:List Prt} {bs:List Bk} {os:List Int} {qs:List (Rv × Rv)} {st:List Iq}
theorem Abg (h:DK ps bs st=false):(∀ p∈st,Gm p=false)∧∀ t,t<(Dd bs).length→Gm (rgN ps bs st t)=false:=by
 unfold DK at h
 rw [kt] at h
 exact ⟨fun p hp=>by have:=List.any_eq_false.1 h.1 p hp;rwa [aw] at this,fun t ht=>by have:=List.any_eq_false.1 h.2 t (List.mem_range.2 ht);rwa [aw] at this⟩
theorem AmO (hj:(Dd bs)[t]?=some j) (hy:bs[j]?=some y):rgN ps bs st t=Bv y (LF (rgS ps bs st t) y) ps:=by
 unfold rgN tkW
 rw [hj]
 simp only [bh]
 rw [hy]
theorem AiX (he:Bc ps bs os=0) (hst:∀ p∈st,IwS p LB LB) (hl:st.length=(Bn bs).length) (hb:DK ps bs st=false):∀ t,t≤(Dd bs).length→Abc (rgS ps bs st t) (AiE bs t):=fun t=>by
 induction t with
 | zero=>intro _;rw [AiT];exact Wn hst hl
 | succ t ih =>
  intro ht
  obtain ⟨j,hj⟩:∃ j,(Dd bs)[t]?=some j:=⟨_,gE ht⟩
  have h:=ih (by omega)
  obtain ⟨y,hy,_,T⟩:=Wo he hj h
  have TS:=T.sm
  rw [←AmO hj hy] at TS
  exact Tf h hj (PH TS ((Abg hb).2 t ht))
theorem Abh (he:Bc ps bs os=0) (hst:∀ p∈st,IwS p LB LB) (hl:st.length=(Bn bs).length) (hb:DK ps bs st=false) {i:Nat} (hi:i<bs.length):∃ p,(rgV ps bs st)[i]?=some p∧(rgS ps bs st (Dd bs).length)[i]?=some (some p)∧IwS p LB LB:=by
 obtain ⟨p,hp,hs⟩:=Aee he (AiX he hst hl hb _ (aa _)) hi
 exact ⟨p,AmJ hp,hp,hs⟩
theorem Ox:(rgV ps bs st).length=bs.length:=by unfold rgV;rw [AaZ,Ov]
end
def clOk (ps:List Prt) (bs:List Bk) (st:List Iq) (k:Nat):Bool :=
 iIn ((Cr bs)[k]?.getD (0,0),(Cr bs)[k]?.getD (0,0)) (st[k]?.getD iZ) && iIn ((rgV ps bs st)[Aoe bs ((Bn bs)[k]?.getD 0)]?.getD iZ) (st[k]?.getD iZ)
def XP (ps:List Prt) (bs:List Bk) (st:List Iq):Bool:=(List.range (Bn bs).length).all (clOk ps bs st)
theorem Aeg {st:List Iq} (h:∀ k,k<(Bn bs).length→clOk ps bs st k=true):XP ps bs st=true:=List.all_eq_true.2 fun k hk=>h k (List.mem_range.1 hk)
abbrev pw (k:Int):Pq:=Ae 1 0 k
theorem UG {k:Int} (h0 : -(n:Int)≤k) (h1:k≤n) (hn:n≤65536):Sm (pw k) (n+1) n:=by
 unfold pw Ae
 split
 ·exact (Sm.mk_nf (m:=1) (n:=n+1) (d:=n) (p:=0+(-(max (-65536) (min k 65536))).toNat) (by omega) (by omega) (Nat.one_lt_two_pow (by omega)))
 ·refine (Sm.mk_nf (n:=n+1) (d:=n) (p:=0) (by omega) (by omega) ?_)
  rw [jf,fm]
  exact Nat.pow_lt_pow_right (by decide) (by omega)
theorem Mh {k:Int} (h0 : -65536≤k) (h1:k≤65536):gv (pw k)=2 ^ (65536+k).toNat:=by
 by_cases hk:0≤k
 ·have:=SJ (p:=(1,0)) (n:=k.toNat) (ad _) (by omega)
  rw [show ((k.toNat:Nat):Int)=k by omega,Oj,jf,←av] at this
  rw [show gv (pw k)=_ from this]
  congr 1
  show 65536+k.toNat=_
  omega
 ·have:=Oi (p:=(1,0)) (n:=(-k).toNat) (by show 0+(-k).toNat≤65536;omega) (by omega)
  rw [show (-(((-k).toNat:Nat):Int))=k by omega,Oj,jf] at this
  refine jv (jb (Be (-k).toNat)) ?_
  rw [this,←av]
  congr 1
  show 65536=_
  omega
def upK (x:Pq):Int:=(Bl x.1.natAbs:Int) - 1 - x.2
def upP (x:Pq):Pq:=if x.1=0 then x else if x.1<0 then (if upK x < -30 then (0,0) else IQ (pw (upK x))) else pw (max (if Ir (pw (upK x)) x<0 then upK x+1 else upK x) (-30))
theorem PJ (h:p:=by
 exact Ax rfl (.cons_ (rvW Aa rfl) .nil_)):p:=h
theorem MM (k:Int) (h0 : -65536≤k) (h1:k≤65536):CV prog Ah 233 [aI k] [aDy false (pw k).1 (pw k).2]:=by
 refine cvz func233 ntmps233 ?_
 have OF:=Ff 1 (by decide) (by decide)
 have SH:=BH 1 0 k ⟨by decide,fun h=>absurd rfl h⟩ (lT (AC (k:=2) (by decide)) (by decide)) (by omega)
 repeat' (with_reducible first|refine qq ?_|(refine Tx 0 ?_;refine gN (xAl Aj) ?_)|(refine Tx 1 ?_;refine gO (xCl func68 (OF)) <| gO xM <| gO (xCl func21 (SH)) <| gZ (xSk Aa) ?_))
 exact PJ
def OS (a:Iq):Bool:=decide (0<Ir (FX a) (pw 40))
theorem Wq (a:Iq) (h:IwS a 20000 20000):CV prog Ah 174 [aIw false a] [aB (OS a)]:=by
 refine cvz func174 ntmps174 ?_
 have MG:=IV a h
 have hm:=h.abs.s2
 have PW:=MM 40 (by decide) (by decide)
 have hp:=UG (k:=40) (n:=40) (by decide) (by decide) (by decide)
 have CM:=(BZ (FX a).1 (FX a).2 (pw 40).1 (pw 40).2 hm.ok hp.ok hm.lz hp.lz)
 have hf:decide (0<Ir (FX a) (pw 40))=OS a:=rfl
 repeat' (with_reducible first|refine qq ?_|(refine Tx 0 ?_;refine gN xBo <| gO xA ?_)|(refine Tx 1 ?_;refine gO xL <| gO (xCl func159 (MG)) <| gO (xCl func233 (PW)) <| gO (xCl func15 (CM)) <| gO (by first|exact Qt rfl rfl rfl hf|exact xGt) <| gO xA ?_))
 exact Ax rfl (.cons_ (DD rfl rfl) .nil_)
def P2 (j:Nat):Int:=2 ^ (65506+j)
theorem AmP (h:P2 i≤P2 j):i≤j:=Nat.not_lt.1 fun hc=>by
 unfold P2 at h
 rw [show 65506+i=(65506+j)+((i - j - 1)+1) by omega,av,il] at h
 have q1:=Be (65506+j)
 have q2:=Be (i - j - 1)
 have:=js (show (2:Int)≤2 ^ (i - j - 1)*2 by omega) (bf q1)
 omega
def inU (z:Int):Prop:=z=0∨∃ j:Nat,z=P2 j∨z = -P2 j
theorem AiY {x:Pq} (h0:x.1≠0):1≤Bl x.1.natAbs∧2 ^ (Bl x.1.natAbs - 1)≤x.1.natAbs∧x.1.natAbs<2 ^ Bl x.1.natAbs:=by
 have h1:1≤Bl x.1.natAbs:=Nat.one_le_iff_ne_zero.2 fun hc=>by
  have:Bl x.1.natAbs≤0:=by omega
  have:=Dl.1 this
  omega
 refine ⟨h1,Nat.not_lt.1 fun hc=>?_,Dl.1 (aa _)⟩
 have:=Dl.2 hc
 omega
theorem Apd {x:Pq} (h:Sm x n n) (hn:n≤65000) (h30:30≤n):Sm (upP x) (n+2) (n+1)∧gv x≤gv (upP x)∧inU (gv (upP x)):=by
 by_cases h0:x.1=0
 ·exact ⟨by unfold upP;rw [if_pos h0];exact h.more (by omega) (by omega),by unfold upP;rw [if_pos h0];exact dc _,by unfold upP gv;rw [if_pos h0,h0,Int.zero_mul];exact .inl rfl⟩
 ·obtain ⟨b1,b2,b3⟩:=AiY h0
  have bn:Bl x.1.natAbs≤n:=Dl.2 h.n
  have hd:=h.d
  have hk:upK x=(Bl x.1.natAbs:Int) - 1 - x.2:=rfl
  have ex:gv x=x.1*2 ^ (GQ - x.2):=rfl
  have hG:GQ=65536:=rfl
  have pk:gv (pw (upK x))=2 ^ (Bl x.1.natAbs - 1)*2 ^ (GQ - x.2):=by rw [Mh (by omega) (by omega),←av];congr 1;omega
  have pk1:gv (pw (upK x+1))=2 ^ Bl x.1.natAbs*2 ^ (GQ - x.2):=by rw [Mh (by omega) (by omega),←av];congr 1;omega
  have grid:∀ k:Int,-30≤k→k≤65536→gv (pw k)=P2 (k+30).toNat:=fun k k0 k1=>by rw [Mh (by omega) k1];unfold P2;congr 1;omega
  have p0:=Be (GQ - x.2)
  have c2:((2 ^ (Bl x.1.natAbs - 1):Nat):Int)=2 ^ (Bl x.1.natAbs - 1):=Int.natCast_pow ..
  have c3:((2 ^ Bl x.1.natAbs:Nat):Int)=2 ^ Bl x.1.natAbs:=Int.natCast_pow ..
  unfold upP
  rw [if_neg h0]
  by_cases h1:x.1<0
  ·rw [if_pos h1]
   by_cases h2:upK x < -30
   ·rw [if_pos h2]
    refine ⟨Sm.zero _ _,?_,by rw [FV];exact .inl rfl⟩
    rw [FV,ex]
    exact lh (bf h1) (bf p0)
   ·rw [if_neg h2]
    refine ⟨((UG (n:=n) (by omega) (by omega) (by omega)).neg).more (by omega) (by omega),?_,?_⟩
    ·rw [Hp,pk,ex,←dq]
     exact fg (by omega) (bf p0)
    ·rw [Hp,grid _ (by omega) (by omega)];exact .inr ⟨_,.inr rfl⟩
  ·rw [if_neg h1]
   have key:∀ k':Int,gv x≤gv (pw k')→k'≤n → -65536≤k'→Sm (pw (max k' (-30))) (n+2) (n+1)∧gv x≤gv (pw (max k' (-30)))∧inU (gv (pw (max k' (-30)))):=fun k' hk' hn' hl'=>by
    refine ⟨(UG (n:=n) (by omega) (by omega) (by omega)).more (by omega) (by omega),Int.le_trans hk' ?_,.inr ⟨_,.inl (grid _ (by omega) (by omega))⟩⟩
    rw [Mh hl' (by omega),Mh (by omega) (by omega)]
    have hle:(65536+k').toNat≤(65536+max k' (-30)).toNat:=by omega
    rw [show (65536+max k' (-30)).toNat=(65536+k').toNat+((65536+max k' (-30)).toNat - (65536+k').toNat) by omega,av]
    have q1:=Be (65536+k').toNat
    have q2:=Be ((65536+max k' (-30)).toNat - (65536+k').toNat)
    have:=js (show (1:Int)≤2 ^ ((65536+max k' (-30)).toNat - (65536+k').toNat) by omega) (bf q1)
    rwa [Int.mul_one] at this
   have sk:=UG (k:=upK x) (n:=n) (by omega) (by omega) (by omega)
   by_cases h3:Ir (pw (upK x)) x<0
   ·rw [if_pos h3]
    refine key _ ?_ (by omega) (by omega)
    rw [pk1,ex]
    exact fg (by omega) (bf p0)
   ·rw [if_neg h3]
    exact key _ ((Oh sk.le h.le).1 (Int.not_lt.1 h3)) (by omega) (by omega)
theorem Tj (k:p') (h:Hd9 p'→p:=by with_reducible first|(intro Z9;refine qq ?_;exact Z9.o)|(intro Z9;refine Tx 0 ?_;refine gN xBo <| gN (xAl Aj) ?_;exact Z9.o)|(intro Z9;refine Tx 1 ?_;refine gO xL <| gO (xCl func55 (SG)) <| gO xEq ?_;exact Z9.o)|fail):p:=h ⟨k⟩
theorem Wr (k:p') (h:Hd9 p'→p:=by with_reducible first|(intro Z9;refine Ca (id:=3) AV (by kernel_rfl) ?_;refine gP xL <| gP (xCl func212 (BT)) <| gP xSb <| gP xF <| gP xD <| gP xSb <| gP xA ?_;refine Ke ?_;exact Z9.o)|(intro Z9;refine Tx 4 ?_;refine gO xL <| gO (xCl func55 (SG)) <| gO xLt ?_;exact Z9.o)|fail):p:=h ⟨k⟩
theorem AfI (k:p') (h:Hd9 p'→p:=by with_reducible first|(intro Z9;refine Ca (id:=8) AV (by kernel_rfl) ?_;refine gP xM <| gP (xCl func233 (PW)) <| gP xL <| gP (xCl func15 (CM)) <| gP xLt ?_;refine Ke ?_;exact Z9.o)|(intro Z9;refine Tx 10 ?_;refine gO xM <| gO (by exact HW rfl rfl rfl) <| gO (by first|exact xCl func233 (PM)|exact xCl func233 (PW)) <| gZ (xSk Aa) ?_;exact Z9.o)|fail):p:=h ⟨k⟩
theorem Abi (x:Pq) (h:Sm x 20000 20000):CV prog Ah 177 [aDy false x.1 x.2] [aDy false (upP x).1 (upP x).2]:=by
 refine cvz func177 ntmps177 ?_
 have hd:=h.d
 have hbn:Bl x.1.natAbs≤20000:=Dl.2 h.n
 have hl:(Ab x.1.natAbs).length≤40000:=lT (h.lenN 625 (by decide)) (by decide)
 have SG:=IT x.1 x.2 h.ok hl
 have BT:=ME x.1 x.2 h.ok hl
 have PW:=MM (((Bl x.1.natAbs:Nat):Int) - 1 - (x.2:Int)) (by omega) (by omega)
 have sp:=UG (k:=((Bl x.1.natAbs:Nat):Int) - 1 - (x.2:Int)) (n:=20001) (by omega) (by omega) (by decide)
 have lp:=lT (sp.lenN 626 (by decide)) (show 626≤40000 by decide)
 by_cases h0:x.1=0
 case pos =>
  rw [show upP x=x from if_pos h0]
  rw [show sgI x.1=0 by unfold sgI;(repeat' split) <;> omega] at SG
  repeat' (with_reducible first|refine Tj ?_|(refine Tx 2 ?_;refine gO xL <| gZ (xSk Aa) ?_))
  exact PJ
 have hk:upK x=((Bl x.1.natAbs:Nat):Int) - 1 - (x.2:Int):=rfl
 by_cases h1:x.1<0
 case pos =>
  rw [show sgI x.1 = -1 by unfold sgI;(repeat' split) <;> omega] at SG
  by_cases h2:((Bl x.1.natAbs:Nat):Int) - 1 - (x.2:Int) < -30
  case pos =>
   rw [show upP x=(0,0) by unfold upP;rw [if_neg h0,if_pos h1,if_pos (by omega)],Gy]
   repeat' (with_reducible first|refine Tj ?_|refine Wr ?_|(refine Tx 5 ?_;refine gO xM <| gO xLt ?_)|(refine Tx 6 ?_;refine gO (by exact AO rfl Fl rfl rfl) <| gZ (xSk Aa) ?_))
   exact Ax rfl (.cons_ (AoX Aa rfl) .nil_)
  rw [show upP x=IQ (pw (((Bl x.1.natAbs:Nat):Int) - 1 - (x.2:Int))) by unfold upP;rw [if_neg h0,if_pos h1,if_neg (by omega),hk]]
  have NG:=FS (pw (((Bl x.1.natAbs:Nat):Int) - 1 - (x.2:Int))).1 (pw (((Bl x.1.natAbs:Nat):Int) - 1 - (x.2:Int))).2 sp.ok lp
  repeat' (with_reducible first|refine Tj ?_|refine Wr ?_|(refine Tx 5 ?_;refine gO xM <| gO xLt ?_)|(refine Tx 7 ?_;refine gO xM <| gO (xCl func233 (PW)) <| gO (xCl func176 (NG)) <| gZ (xSk Aa) ?_))
  exact PJ
 rw [show sgI x.1=1 by unfold sgI;(repeat' split) <;> omega] at SG
 have CM:=BZ (pw (((Bl x.1.natAbs:Nat):Int) - 1 - (x.2:Int))).1 (pw (((Bl x.1.natAbs:Nat):Int) - 1 - (x.2:Int))).2 x.1 x.2 sp.ok h.ok lp hl
 by_cases h3:BI (pw (((Bl x.1.natAbs:Nat):Int) - 1 - (x.2:Int))).1 (pw (((Bl x.1.natAbs:Nat):Int) - 1 - (x.2:Int))).2 x.1 x.2<0
 case pos =>
  have PM:=MM (max (((Bl x.1.natAbs:Nat):Int) - 1 - (x.2:Int)+1) (-30)) (by omega) (by omega)
  rw [show upP x=pw (max (((Bl x.1.natAbs:Nat):Int) - 1 - (x.2:Int)+1) (-30)) by unfold upP;rw [if_neg h0,if_neg h1,hk,if_pos h3]]
  repeat' (with_reducible first|refine Tj ?_|refine Wr ?_|refine AfI ?_|(refine Tx 9 ?_;refine gO xM <| gO xAd <| gO xA ?_))
  exact PJ
 case neg =>
  have PM:=MM (max (((Bl x.1.natAbs:Nat):Int) - 1 - (x.2:Int)) (-30)) (by omega) (by omega)
  rw [show upP x=pw (max (((Bl x.1.natAbs:Nat):Int) - 1 - (x.2:Int)) (-30)) by unfold upP;rw [if_neg h0,if_neg h1,hk,if_neg h3]]
  repeat' (with_reducible first|refine Tj ?_|refine Wr ?_|refine AfI ?_)
  exact PJ
def UL:List Int:=0::((List.range 71).map P2++(List.range 71).map fun j => -P2 j)
def phi (z:Int):Nat:=UL.countP fun m=>decide (m<z)
def psi (z:Int):Nat:=UL.countP fun m=>decide (z<m)
theorem AfJ:UL.length=143:=by unfold UL;rw [bw,ak,af,af,fd]
theorem AmQ (z:Int):phi z≤143:=by have:=List.countP_le_length (p:=fun m=>decide (m<z)) (l:=UL);rw [AfJ] at this;exact this
theorem AmR (z:Int):psi z≤143:=by have:=List.countP_le_length (p:=fun m=>decide (z<m)) (l:=UL);rw [AfJ] at this;exact this
theorem Rl {α:Type} {p q:α→Bool} {m:α} (h:∀ x,p x=true→q x=true) (h1:p m=false) (h2:q m=true):∀ {l:List α},m∈l→l.countP p<l.countP q
 | [],hm=>by cases hm
 | x::l,hm=>by
  have hle:l.countP p≤l.countP q:=List.countP_mono_left fun y _ hy=>h y hy
  rw [List.countP_cons,List.countP_cons]
  rcases List.mem_cons.1 hm with rfl|hm
  ·rw [h1,h2];simp;omega
  ·have ih:=Rl h h1 h2 hm
   cases hp:p x with
   | true=>rw [h x hp];omega
   | false=>simp;cases q x <;> simp <;> omega
theorem Abj {z:Int} (h:inU z) (h1 : -P2 70≤z) (h2:z≤P2 70):z∈UL:=by
 unfold UL
 rcases h with rfl|⟨j,rfl|rfl⟩
 ·exact gz ..
 ·have:=AmP h2
  exact fx _ (List.mem_append_left _ (ku (List.mem_range.2 (by omega))))
 ·have:=AmP (i:=j) (j:=70) (by omega)
  exact fx _ (List.mem_append_right _ (ku (f:=fun j => -P2 j) (List.mem_range.2 (by omega))))
theorem AmS {z z':Int} (hm:z'∈UL) (h:z'<z):phi z'<phi z:=Rl (p:=fun m=>decide (m<z')) (q:=fun m=>decide (m<z)) (m:=z') (fun x hx=>decide_eq_true (by have:=of_decide_eq_true hx;omega)) (decide_eq_false (by omega)) (decide_eq_true h) hm
theorem AmT {z z':Int} (hm:z'∈UL) (h:z<z'):psi z'<psi z:=Rl (p:=fun m=>decide (z'<m)) (q:=fun m=>decide (z<m)) (m:=z') (fun x hx=>decide_eq_true (by have:=of_decide_eq_true hx;omega)) (decide_eq_false (by omega)) (decide_eq_true h) hm
theorem AmU {d:Nat} (h:IwS a n d) (hf:OS a=false) : -P2 70≤gv a.1∧gv a.1≤P2 70 ∧ -P2 70≤gv a.2∧gv a.2≤P2 70:=by
 have hp:=UG (k:=40) (n:=40) (by decide) (by decide) (by decide)
 have h1:=of_decide_eq_false hf
 have h2:=(LS (p:=FX a) (q:=pw 40) h.abs.s2.le hp.le).1 (Int.not_lt.1 h1)
 rw [Mh (by decide) (by decide),show gv (FX a)=_ from (Aay h).2] at h2
 have e:(2:Int) ^ (65536+(40:Int)).toNat=P2 70:=by unfold P2;congr 1
 rw [e] at h2
 omega
theorem MO {p:Pq} {d den:Nat} (h:Sm p n d) (hd:den≤65536):Sm (PC p den) n den:=by
 unfold PC Bg
 split
 ·exact ⟨h.ok,h.n,by assumption⟩
 ·exact Sm.mk_nf (aa _) hd (gd SQ h.n)
theorem Aeh {d den:Nat} (h:IwS a n d) (hd:den≤65536):IwS (GB a den) n den∧gv (GB a den).1≤gv a.1∧gv a.2≤gv (GB a den).2:=by
 have f1:=QW (p:=a.1) (den:=den) h.s1.le hd
 have f2:=QW (p:=IQ a.2) (den:=den) h.s2.neg.le hd
 rw [Hp] at f2
 have g1:gv (GB a den).1≤gv a.1:=f1.1
 have g2:gv a.2≤gv (GB a den).2:=by
  show _≤gv (IQ (PC (IQ a.2) den))
  rw [Hp]
  have f3:gv (PC (IQ a.2) den) ≤ -gv a.2:=f2.1
  omega
 exact ⟨⟨MO h.s1 hd,(MO h.s2.neg hd).neg,by have:=h.le;omega⟩,g1,g2⟩
def Ep (inv r:Iq):Iq:=GB (Ik inv r) 64
def loC (inv r:Iq):Bool:=decide (¬ (Ep inv r).1=inv.1)
def hiC (inv r:Iq):Bool:=decide (¬ (Ep inv r).2=inv.2)
def DV (w:Bool) (inv r:Iq):Iq:=(if (w && loC inv r)=true then IQ (upP (IQ (Ep inv r).1)) else (Ep inv r).1,if (w && hiC inv r)=true then upP (Ep inv r).2 else (Ep inv r).2)
theorem AiZ {b:Iq} {d:Nat} (h:IwS a n d) (k:IwS b n d):gv (Ik a b).1=min (gv a.1) (gv b.1)∧gv (Ik a b).2=max (gv a.2) (gv b.2):=by
 obtain ⟨e1,e2,e3⟩:=FA h.s1 h.s2 k.s1 k.s2
 have h1:=h.le
 have h2:=k.le
 exact ⟨by show gv (CC [a.1,a.2,b.1,b.2]).1=_;rw [e1];omega,by show gv (CC [a.1,a.2,b.1,b.2]).2=_;rw [e2];omega⟩
theorem Abk (h:IwS a LB LB) (k:IwS r LB LB):IwS (Ep a r) LB 64∧gv (Ep a r).1≤gv a.1∧gv (Ep a r).1≤gv r.1∧gv a.2≤gv (Ep a r).2∧gv r.2≤gv (Ep a r).2:=by
 obtain ⟨e1,e2⟩:=AiZ h k
 obtain ⟨s,r1,r2⟩:=Aeh (h.hull k) (den:=64) (by decide)
 exact ⟨s,by show gv (GB (Ik a r) 64).1≤_;omega,by show gv (GB (Ik a r) 64).1≤_;omega,by show _≤gv (GB (Ik a r) 64).2;omega,by show _≤gv (GB (Ik a r) 64).2;omega⟩
theorem UH {p:Pq} (h:Sm p LB 64):Sm (upP p) 20000 20000∧gv p≤gv (upP p)∧inU (gv (upP p)):=by
 obtain ⟨h1,h2,h3⟩:=Apd (h.more (aa LB) (show 64≤LB by decide)) (by decide) (by decide)
 exact ⟨h1.more (by decide) (by decide),h2,h3⟩
theorem UI (h:IwS a LB LB) (k:IwS r LB LB):IwS (DV w a r) 20000 20000∧gv (DV w a r).1≤gv a.1∧gv a.2≤gv (DV w a r).2 ∧
  (w=true→((loC a r=false∧(DV w a r).1=a.1)∨(gv (DV w a r).1<gv a.1∧inU (gv (DV w a r).1)))∧((hiC a r=false∧(DV w a r).2=a.2)∨(gv a.2<gv (DV w a r).2∧inU (gv (DV w a r).2)))):=by
 obtain ⟨s,r1,r2,r3,r4⟩:=Abk h k
 have hh:=h.le
 obtain ⟨u1,u2,u3⟩:Sm (upP (IQ (Ep a r).1)) 20000 20000∧gv (IQ (Ep a r).1)≤gv (upP (IQ (Ep a r).1))∧inU (gv (upP (IQ (Ep a r).1))):=UH s.s1.neg
 obtain ⟨v1,v2,v3⟩:=UH s.s2
 rw [show gv (IQ (Ep a r).1) = -gv (Ep a r).1 from Hp _] at u2
 have q1:Sm (DV w a r).1 20000 20000∧gv (DV w a r).1≤gv a.1∧(w=true→((loC a r=false∧(DV w a r).1=a.1)∨(gv (DV w a r).1<gv a.1∧inU (gv (DV w a r).1)))):=by
  show Sm (if (w && loC a r)=true then _ else _) _ _∧gv (if (w && loC a r)=true then _ else _)≤_∧(w=true→((_∧(if (w && loC a r)=true then _ else _)=_)∨(gv (if (w && loC a r)=true then _ else _)<_∧inU (gv (if (w && loC a r)=true then _ else _)))))
  by_cases hc:(w && loC a r)=true
  ·rw [if_pos hc]
   rw [ai] at hc
   have hne:¬ (Ep a r).1=a.1:=of_decide_eq_true hc.2
   have hlt:gv (Ep a r).1<gv a.1:=Int.lt_iff_le_and_ne.2 ⟨r1,fun e=>hne (Og s.s1.ok h.s1.ok e)⟩
   rw [Hp]
   refine ⟨u1.neg,by omega,fun _=>.inr ⟨by omega,?_⟩⟩
   rcases u3 with e|⟨j,e|e⟩
   ·exact .inl (by omega)
   ·exact .inr ⟨j,.inr (by omega)⟩
   ·exact .inr ⟨j,.inl (by omega)⟩
  ·rw [if_neg hc]
   refine ⟨s.s1.more (by decide) (by decide),r1,fun hw=>.inl ?_⟩
   rw [hw,em,aw] at hc
   exact ⟨hc,cm fun hn=>by rw [show loC a r=true from decide_eq_true hn] at hc;cases hc⟩
 have q2:Sm (DV w a r).2 20000 20000∧gv a.2≤gv (DV w a r).2∧(w=true→((hiC a r=false∧(DV w a r).2=a.2)∨(gv a.2<gv (DV w a r).2∧inU (gv (DV w a r).2)))):=by
  show Sm (if (w && hiC a r)=true then _ else _) _ _∧_≤gv (if (w && hiC a r)=true then _ else _)∧(w=true→((_∧(if (w && hiC a r)=true then _ else _)=_)∨(_<gv (if (w && hiC a r)=true then _ else _)∧inU (gv (if (w && hiC a r)=true then _ else _)))))
  by_cases hc:(w && hiC a r)=true
  ·rw [if_pos hc]
   rw [ai] at hc
   have hne:¬ (Ep a r).2=a.2:=of_decide_eq_true hc.2
   have hlt:gv a.2<gv (Ep a r).2:=Int.lt_iff_le_and_ne.2 ⟨r3,fun e=>hne (Og h.s2.ok s.s2.ok e).symm⟩
   exact ⟨v1,by omega,fun _=>.inr ⟨by omega,v3⟩⟩
  ·rw [if_neg hc]
   refine ⟨s.s2.more (by decide) (by decide),r3,fun hw=>.inl ?_⟩
   rw [hw,em,aw] at hc
   exact ⟨hc,cm fun hn=>by rw [show hiC a r=true from decide_eq_true hn] at hc;cases hc⟩
 exact ⟨⟨q1.1,q2.1,by have:=q1.2.1;have:=q2.2.1;omega⟩,q1.2.1,q2.2.1,fun hw=>⟨q1.2.2 hw,q2.2.2 hw⟩⟩
def rgA (ps:List Prt) (bs:List Bk) (l:List Iq) (k:Nat):Iq:=(rgV ps bs l)[Aoe bs ((Bn bs)[k]?.getD 0)]?.getD iZ
def nxI (ps:List Prt) (bs:List Bk) (w:Bool) (l:List Iq) (k:Nat):Iq:=DV w (l[k]?.getD iZ) (rgA ps bs l k)
def CF (ps:List Prt) (bs:List Bk) (w:Bool) (l:List Iq):List Iq:=(List.range (Bn bs).length).map (nxI ps bs w l)
def Aof (ps:List Prt) (bs:List Bk) (l:List Iq) (k:Nat):Bool:=loC (l[k]?.getD iZ) (rgA ps bs l k) || hiC (l[k]?.getD iZ) (rgA ps bs l k)
def Ws (ps:List Prt) (bs:List Bk) (l:List Iq) (k:Nat):Bool:=(List.range k).any (Aof ps bs l)
def GG (ps:List Prt) (bs:List Bk) (rd:Int):Nat→Nat→List Iq→Option (Int × List Iq)
 | 0,_,_=>none
 | f+1,r,l=>if DK ps bs l=true then some (4,[]) else if Ws ps bs l (Bn bs).length=false then some (0,l)
  else if (CF ps bs (decide (rd<(r:Int))) l).any OS=true then some (22,[]) else GG ps bs rd f (r+1) (CF ps bs (decide (rd<(r:Int))) l)
structure Tk (bs:List Bk) (l:List Iq):Prop where
 len:l.length=(Bn bs).length
 iw:∀ a∈l,IwS a 20000 20000
 far:∀ a∈l,OS a=false
 st:∀ k,k<(Bn bs).length→gv (l[k]?.getD iZ).1≤gv ((Cr bs)[k]?.getD (0,0))∧gv ((Cr bs)[k]?.getD (0,0))≤gv (l[k]?.getD iZ).2
theorem IW {α:Type} {l:List α} {k:Nat} (h:k<l.length) (z:α):l[k]?.getD z∈l:=by rw [gE h,bh];exact fj h
section
variable {ps:List Prt} {bs:List Bk} {os:List Int} {l:List Iq} {rd:Int}
theorem Tl (w:Bool):(CF ps bs w l).length=(Bn bs).length:=by unfold CF;rw [af,fd]
theorem Wt (w:Bool) {k:Nat} (hk:k<(Bn bs).length):(CF ps bs w l)[k]?=some (nxI ps bs w l k):=by unfold CF;rw [ag,ju hk];rfl
theorem Tk.lb (h:Tk bs l) (hb:DK ps bs l=false):∀ a∈l,IwS a LB LB:=fun a ha=>PH (h.iw a ha) ((Abg hb).1 a ha)
theorem Wu (he:Bc ps bs os=0) (h:Tk bs l) (hb:DK ps bs l=false) {k:Nat} (hk:k<(Bn bs).length):IwS (rgA ps bs l k) LB LB:=by
 obtain ⟨i,hi⟩:∃ i,(Bn bs)[k]?=some i:=⟨_,gE hk⟩
 have hid:=Od hi
 obtain ⟨y,hy⟩:∃ y,bs[i]?=some y:=⟨_,gE hid.1⟩
 obtain ⟨b,hA0,hbl⟩:=Aas he hy (by rw [←LA hy];exact hid.2)
 obtain ⟨r,hr,_,hrs⟩:=Abh he (h.lb hb) h.len hb hbl
 unfold rgA
 rw [hi,bh,Aat hy hA0,hr]
 exact hrs
theorem Tk.next (he:Bc ps bs os=0) (h:Tk bs l) (hb:DK ps bs l=false) (w:Bool) (hf:(CF ps bs w l).any OS=false):Tk bs (CF ps bs w l):=by
 have key:∀ k,k<(Bn bs).length→IwS (nxI ps bs w l k) 20000 20000∧gv (nxI ps bs w l k).1≤gv (l[k]?.getD iZ).1∧gv (l[k]?.getD iZ).2≤gv (nxI ps bs w l k).2:=fun k hk=>by
  have:=UI (w:=w) (h.lb hb _ (IW (by rw [h.len];exact hk) iZ)) (Wu he h hb hk)
  exact ⟨this.1,this.2.1,this.2.2.1⟩
 refine ⟨Tl w,fun a ha=>?_,fun a ha=>?_,fun k hk=>?_⟩
 ·obtain ⟨k,hk,rfl⟩:=List.mem_map.1 ha
  exact (key k (List.mem_range.1 hk)).1
 ·have:=List.any_eq_false.1 hf a ha
  rwa [aw] at this
 ·rw [Wt w hk,bh]
  obtain ⟨_,k1,k2⟩:=key k hk
  obtain ⟨s1,s2⟩:=h.st k hk
  exact ⟨Int.le_trans k1 s1,Int.le_trans s2 k2⟩
theorem Aei (h:Ws ps bs l (Bn bs).length=false) {k:Nat} (hk:k<(Bn bs).length):loC (l[k]?.getD iZ) (rgA ps bs l k)=false∧hiC (l[k]?.getD iZ) (rgA ps bs l k)=false:=by
 have:=List.any_eq_false.1 h k (List.mem_range.2 hk)
 rw [aw] at this
 exact Bool.or_eq_false_iff.1 this
theorem Abl (he:Bc ps bs os=0) (h:Tk bs l) (hb:DK ps bs l=false) (hc:Ws ps bs l (Bn bs).length=false):XP ps bs l=true:=Aeg fun k hk=>by
 have hl:=h.lb hb _ (IW (l:=l) (k:=k) (by rw [h.len];exact hk) iZ)
 have hr:=Wu he h hb hk
 have hst:=MH he
 have hs:=Df hst.sm k
 obtain ⟨s1,s2⟩:=h.st k hk
 obtain ⟨c1,c2⟩:=Aei hc hk
 have e1:(Ep (l[k]?.getD iZ) (rgA ps bs l k)).1=(l[k]?.getD iZ).1:=cm fun hn=>by rw [show loC _ _=true from decide_eq_true hn] at c1;cases c1
 have e2:(Ep (l[k]?.getD iZ) (rgA ps bs l k)).2=(l[k]?.getD iZ).2:=cm fun hn=>by rw [show hiC _ _=true from decide_eq_true hn] at c2;cases c2
 obtain ⟨_,_,r2,_,r4⟩:=Abk hl hr
 rw [e1] at r2
 rw [e2] at r4
 show (iIn _ _ && iIn (rgA ps bs l k) _)=true
 rw [Aaz (IwS.pt hs) hl,Aaz hr hl,decide_eq_true (show _∧_ from ⟨s1,s2⟩),decide_eq_true (show _∧_ from ⟨r2,r4⟩)]
 rfl
theorem Wv (he:Bc ps bs os=0):∀ (f r:Nat) (l:List Iq) (e:Int) (l':List Iq),Tk bs l→GG ps bs rd f r l=some (e,l')→(e=0∧Tk bs l'∧DK ps bs l'=false∧XP ps bs l'=true)∨((e=4∨e=22)∧l'=[])
 | 0,r,l,e,l',h,hi=>by cases hi
 | f+1,r,l,e,l',h,hi=>by
  unfold GG at hi
  by_cases h1:DK ps bs l=true
  ·rw [if_pos h1] at hi;cases hi;exact .inr ⟨.inl rfl,rfl⟩
  ·rw [if_neg h1] at hi
   rw [aw] at h1
   by_cases h2:Ws ps bs l (Bn bs).length=false
   ·rw [if_pos h2] at hi;cases hi;exact .inl ⟨rfl,h,h1,Abl he h h1 h2⟩
   ·rw [if_neg h2] at hi
    by_cases h3:(CF ps bs (decide (rd<(r:Int))) l).any OS=true
    ·rw [if_pos h3] at hi;cases hi;exact .inr ⟨.inr rfl,rfl⟩
    ·rw [if_neg h3] at hi
     rw [aw] at h3
     exact Wv he f (r+1) _ e l' (h.next he h1 _ h3) hi
def mI (a:Iq):Nat:=phi (gv a.1)+psi (gv a.2)
def mL (bs:List Bk) (l:List Iq):Nat:=((List.range (Bn bs).length).map fun k=>mI (l[k]?.getD iZ)).sum
theorem AfK {α:Type} {f:α→Nat} {B:Nat} (h:∀ k,f k≤B):∀ L:List α,(L.map f).sum≤B*L.length
 | []=>by simp
 | x::L=>by
  have:=AfK h L
  have:=h x
  rw [bp,List.sum_cons,bw,Nat.mul_succ]
  omega
theorem AfL {f g:Nat→Nat}:∀ {L:List Nat},(∀ k∈L,f k≤g k)→((L.map f).sum≤(L.map g).sum)∧((∃ k∈L,f k<g k)→(L.map f).sum<(L.map g).sum)
 | [],h=>⟨aa _,fun ⟨k,hk,_⟩=>by cases hk⟩
 | x::L,h=>by
  obtain ⟨i1,i2⟩:=AfL (L:=L) fun k hk=>h k (fx _ hk)
  have hx:=h x (gz ..)
  rw [bp,bp,List.sum_cons,List.sum_cons]
  refine ⟨by omega,fun ⟨k,hk,hlt⟩=>?_⟩
  rcases List.mem_cons.1 hk with rfl|hk
  ·omega
  ·have:=i2 ⟨k,hk,hlt⟩;omega
theorem Ape:mL bs l≤286*(Bn bs).length:=by
 have:=AfK (f:=fun k=>mI (l[k]?.getD iZ)) (B:=286) (fun k=>by have:=AmQ (gv (l[k]?.getD iZ).1);have:=AmR (gv (l[k]?.getD iZ).2);unfold mI;omega) (List.range (Bn bs).length)
 rwa [fd] at this
theorem Apf (he:Bc ps bs os=0) (h:Tk bs l) (hb:DK ps bs l=false) (hc:¬ Ws ps bs l (Bn bs).length=false) (hf:(CF ps bs true l).any OS=false):mL bs (CF ps bs true l)<mL bs l:=by
 have hn:=h.next he hb true hf
 have key:∀ k,k<(Bn bs).length→mI ((CF ps bs true l)[k]?.getD iZ)≤mI (l[k]?.getD iZ)∧(Aof ps bs l k=true→mI ((CF ps bs true l)[k]?.getD iZ)<mI (l[k]?.getD iZ)):=fun k hk=>by
  have hm:=IW (l:=CF ps bs true l) (k:=k) (by rw [hn.len];exact hk) iZ
  obtain ⟨f1,f2,f3,f4⟩:=AmU (hn.iw _ hm) (hn.far _ hm)
  have hs:=UI (w:=true) (h.lb hb _ (IW (by rw [h.len];exact hk) iZ)) (Wu he h hb hk)
  have e:(CF ps bs true l)[k]?.getD iZ=DV true (l[k]?.getD iZ) (rgA ps bs l k):=by rw [Wt true hk];rfl
  rw [e] at f1 f2 f3 f4 ⊢
  obtain ⟨_,_,_,h4⟩:=hs
  obtain ⟨a1,a2⟩:=h4 rfl
  have hcb:Aof ps bs l k=(loC (l[k]?.getD iZ) (rgA ps bs l k) || hiC (l[k]?.getD iZ) (rgA ps bs l k)):=rfl
  have b1:phi (gv (DV true (l[k]?.getD iZ) (rgA ps bs l k)).1)≤phi (gv (l[k]?.getD iZ).1)∧(loC (l[k]?.getD iZ) (rgA ps bs l k)=true→phi (gv (DV true (l[k]?.getD iZ) (rgA ps bs l k)).1)<phi (gv (l[k]?.getD iZ).1)):=by
   rcases a1 with ⟨c,e⟩|⟨c,u⟩
   ·rw [e,c];exact ⟨aa _,fun h=>by cases h⟩
   ·have:=AmS (Abj u f1 f2) c
    exact ⟨by omega,fun _=>this⟩
  have b2:psi (gv (DV true (l[k]?.getD iZ) (rgA ps bs l k)).2)≤psi (gv (l[k]?.getD iZ).2)∧(hiC (l[k]?.getD iZ) (rgA ps bs l k)=true→psi (gv (DV true (l[k]?.getD iZ) (rgA ps bs l k)).2)<psi (gv (l[k]?.getD iZ).2)):=by
   rcases a2 with ⟨c,e⟩|⟨c,u⟩
   ·rw [e,c];exact ⟨aa _,fun h=>by cases h⟩
   ·have:=AmT (Abj u f3 f4) c
    exact ⟨by omega,fun _=>this⟩
  unfold mI
  refine ⟨by omega,fun hch=>?_⟩
  rw [hcb,fa] at hch
  rcases hch with hch|hch
  ·have:=b1.2 hch;omega
  ·have:=b2.2 hch;omega
 rw [ia] at hc
 obtain ⟨k,hk,hck⟩:=List.any_eq_true.1 hc
 exact (AfL fun k hk=>(key k (List.mem_range.1 hk)).1).2 ⟨k,hk,(key k (List.mem_range.1 hk)).2 hck⟩
theorem PK (he:Bc ps bs os=0):∀ (f r:Nat) (l:List Iq),Tk bs l→rd<(r:Int)→mL bs l<f→∃ res,GG ps bs rd f r l=some res
 | 0,r,l,h,hr,hm=>absurd hm (gx _)
 | f+1,r,l,h,hr,hm=>by
  unfold GG
  by_cases h1:DK ps bs l=true
  ·rw [if_pos h1];exact ⟨_,rfl⟩
  ·rw [if_neg h1]
   rw [aw] at h1
   by_cases h2:Ws ps bs l (Bn bs).length=false
   ·rw [if_pos h2];exact ⟨_,rfl⟩
   ·rw [if_neg h2,decide_eq_true hr]
    by_cases h3:(CF ps bs true l).any OS=true
    ·rw [if_pos h3];exact ⟨_,rfl⟩
    ·rw [if_neg h3]
     rw [aw] at h3
     have:=Apf he h h1 h2 h3
     exact PK he f (r+1) _ (h.next he h1 _ h3) (by omega) (by omega)
theorem PN (he:Bc ps bs os=0):∀ (d f r:Nat) (l:List Iq),Tk bs l→rd<(r:Int)+d→d+286*(Bn bs).length<f→∃ res,GG ps bs rd f r l=some res
 | 0,f,r,l,h,hr,hf=>PK he f r l h (by omega) (by have:=Ape (bs:=bs) (l:=l);omega)
 | d+1,0,r,l,h,hr,hf=>absurd hf (gx _)
 | d+1,f+1,r,l,h,hr,hf=>by
  unfold GG
  by_cases h1:DK ps bs l=true
  ·rw [if_pos h1];exact ⟨_,rfl⟩
  ·rw [if_neg h1]
   rw [aw] at h1
   by_cases h2:Ws ps bs l (Bn bs).length=false
   ·rw [if_pos h2];exact ⟨_,rfl⟩
   ·rw [if_neg h2]
    by_cases h3:(CF ps bs (decide (rd<(r:Int))) l).any OS=true
    ·rw [if_pos h3];exact ⟨_,rfl⟩
    ·rw [if_neg h3]
     rw [aw] at h3
     exact PN he d f (r+1) _ (h.next he h1 _ h3) (by omega) (by omega)
def Dk (bs:List Bk):List Iq:=(Cr bs).map fun p=>(p,p)
theorem PO (he:Bc ps bs os=0) (hf:(Dk bs).any OS=false):Tk bs (Dk bs):=by
 have hst:=MH he
 refine ⟨by unfold Dk;rw [af];exact hst.len,fun a ha=>?_,fun a ha=>?_,fun k hk=>?_⟩
 ·obtain ⟨p,hp,rfl⟩:=List.mem_map.1 ha
  exact (IwS.pt (hst.sm p hp)).more (by decide) (by decide)
 ·have:=List.any_eq_false.1 hf a ha
  rwa [aw] at this
 ·obtain ⟨p,hp⟩:∃ p,(Cr bs)[k]?=some p:=⟨_,gE (by rw [hst.len];exact hk)⟩
  unfold Dk
  rw [ag,hp]
  exact ⟨dc _,dc _⟩
end
def Hg (a:Iq):Rv × Rv:=(CY a.1,CY a.2)
theorem Oy (l:List Iq):Wp (l.map Hg)=.row false 6 l.length (Av (dIw false) l):=by
 unfold Wp Av
 rw [af,dj]
 congr 2
 refine fh fun a _=>?_
 show dRv false (CY a.1)++dRv false (CY a.2)=dIw false a
 rw [GD,GD]
 rfl
theorem MP (l:List Iq):(l.map Hg).map ivQ=l:=by
 rw [dj]
 refine (fh fun a _=>?_).trans (List.map_id l)
 show (rvP (CY a.1),rvP (CY a.2))=a
 rw [EJ,EJ]
section
variable {ps:List Prt} {bs:List Bk} {os:List Int} {l:List Iq} {rd:Int}
theorem Oz {d:Nat} (h:∀ a∈l,IwS a n d) (hn:n≤1280000):∀ q∈l.map Hg,RvL q.1∧RvL q.2:=fun q hq=>by
 obtain ⟨a,ha,rfl⟩:=List.mem_map.1 hq
 exact ⟨Hq (h a ha).s1 hn,Hq (h a ha).s2 hn⟩
theorem AfM {d:Nat} (h0:Bc ps bs os=0) (h:∀ a∈l,IwS a n d) (hl:l.length=(Bn bs).length):rgE ps bs os (l.map Hg)=if DK ps bs l=true then 4 else 0:=by
 rw [rgE4 h0 (by rw [af];exact hl) (by rw [ia];exact List.all_eq_true.2 fun q hq=>by obtain ⟨a,ha,rfl⟩:=List.mem_map.1 hq;exact XI (h a ha)),MP]
def nxS (ps:List Prt) (bs:List Bk) (w:Bool) (l:List Iq) (k:Nat):List (Option Iq):=(List.range (Bn bs).length).map fun j=>if j<k then some (nxI ps bs w l j) else none
theorem Abm {k:Nat}:(nxS ps bs w l k).length=(Bn bs).length:=by unfold nxS;rw [af,fd]
theorem Apg:List.replicate (Bn bs).length none=nxS ps bs w l 0:=by
 unfold nxS
 refine ek fun i=>?_
 rw [ag,kc]
 by_cases hi:i<(Bn bs).length
 ·rw [ju hi,if_pos hi];rfl
 ·rw [dn (by rw [fd];omega),if_neg hi];rfl
theorem Aja {k:Nat} (hk:k<(Bn bs).length):(nxS ps bs w l k).set k (some (nxI ps bs w l k))=nxS ps bs w l (k+1):=by
 refine ek fun i=>?_
 rw [cq,Abm]
 unfold nxS
 rw [ag,ag]
 by_cases hi:i<(Bn bs).length
 ·rw [ju hi,cw,cw]
  by_cases hik:k=i
  ·subst hik
   rw [if_pos rfl,if_pos hk,if_pos (by omega)]
  ·rw [if_neg hik]
   by_cases h2:i<k
   ·rw [if_pos h2,if_pos (by omega)]
   ·rw [if_neg h2,if_neg (by omega)]
 ·rw [dn (by rw [fd];omega),if_neg (by omega)];rfl
theorem Ajb:kWs (nxS ps bs w l (Bn bs).length)=(Av (dIw false) (CF ps bs w l)).map C.d:=by
 unfold kWs nxS Av CF
 rw [List.map_flatten,dj,dj,dj]
 congr 1
 refine fh fun j hj=>?_
 show kW (if j<_ then _ else _)=_
 rw [if_pos (List.mem_range.1 hj)]
 rfl
theorem Abn {k b:Nat} (hi:(Bn bs)[k]?=some i) (hy:bs[i]?=some y) (hA:y.args[0]?=some (b:Int)) (ha:l[k]?=some a) (hr:(rgV ps bs l)[b]?=some r):Ws ps bs l (k+1)=(Ws ps bs l k || loC a r || hiC a r)∧(∀ w,nxI ps bs w l k=DV w a r):=by
 have e1:rgA ps bs l k=r:=by unfold rgA;rw [hi,bh,Aat hy hA,hr,bh]
 refine ⟨?_,fun w=>by unfold nxI;rw [ha,bh,e1]⟩
 unfold Ws
 rw [de,List.any_append,List.any_cons,List.any_nil,Bool.or_false]
 unfold Aof
 rw [ha,bh,e1,Bool.or_assoc]
theorem AfN {p q:Pq} {d n' d':Nat} (hp:Sm p n d) (hq:Sm q n' d'):(BI p.1 p.2 q.1 q.2 != 0)=decide (¬ p=q):=by
 rw [Bool.eq_iff_iff,bne_iff_ne,decide_eq_true_eq]
 refine not_congr ((Amd hp.le hq.le).trans ⟨fun h=>Og hp.ok hq.ok h,fun h=>by rw [h]⟩)
def PP (ps:List Prt) (bs:List Bk) (rd:Int) (f:Nat):Option (Int × List Iq):=if (Dk bs).any OS=true then some (22,[]) else GG ps bs rd f 1 (Dk bs)
theorem XQ {l:List Iq} {k:Nat} {p:Iq} (h:l[k]?=some p):(Av (dIw false) (l.take k)).map C.d++(dIw false p).map C.d=(Av (dIw false) (l.take (k+1))).map C.d∧(l.take k).length+1=(l.take (k+1)).length∧(l.take k).length≤k:=by
 refine ⟨?_,?_,by rw [ef];omega⟩
 ·rw [ay,h,ff,Nv,fv];rfl
 ·rw [ay,h,ak];rfl
end
theorem AfO (k:p') (h:Hd9 p'→p:=by with_reducible first|(intro Z9;refine Tx 12 ?_;refine gO (xIr Af (Aio hp)) <| gO xL <| gN (xAl Aj) <| gZ (xSk Aa) ?_;exact Z9.o)|(intro Z9;refine Tx 13 ?_;refine gO xL <| gO (xCl func140 (PT)) <| gN (xAl Ak) <| gZ (xSk Ac) ?_;exact Z9.o)|(intro Z9;refine Tx 14 ?_;refine gO xL <| gO (xCl func174 (FR)) ?_;exact Z9.o)|fail):p:=h ⟨k⟩
theorem XR (t:Bool) {ps:List Prt} {bs:List Bk} {os:List Int} (hl:EB ps bs os) (h0:Bc ps bs os=0) (rd:Int) (r0:1≤rd) (r1:rd≤16) (res:Int × List Iq) (f:Nat) (hf:f≤1000000000) (hres:PP ps bs rd f=some res):CV prog Ah 84 [aDg t ps bs os,aI rd] [AmN res.2,aE res.1]:=by
 refine cvz func84 ntmps84 ?_
 have SC:=AaB t hl (ps:=ps) (bs:=bs) (os:=os)
 have DL:=(IP t hl (ps:=ps) (bs:=bs) (os:=os)).cv
 rw [h0,Aap rfl] at SC
 rw [if_pos h0,h0] at DL
 unfold AoY at SC
 have hnl:=Cl (Bn bs)
 have hl2:=hl.l2
 have hdb:=LD bs
 have hso:=MH h0
 have hsl:=hso.len
 have hsi:(Dk bs).length=(Cr bs).length:=af ..
 repeat' (with_reducible first|refine qq ?_|(refine Tx 0 ?_;refine gN xBo <| gO xA <| gO xA ?_)|(refine Tx 1 ?_;refine gO xL <| gO (xCl func53 (SC)) <| gO xMt <| gO xEx <| gO xEx <| gO xA <| gO xA ?_)|(refine Tx 2 ?_;refine gO xM <| gO (xNE Al) ?_)|(refine Tx 4 ?_;refine gO xM <| gO xLt <| gO xM ?_;(first|iterate 2 refine Jd ?_|(refine Jy xM1 ?_;refine Jy xGt ?_));refine gO xPk ?_)|(refine Tx 6 ?_;refine gO xL <| gO (xCl func19 (DL)) <| gO xMt <| gO xEx <| gO xEx <| gO xA <| gO xA ?_)|(refine Tx 7 ?_;refine gO xM <| gO (xNE Al) ?_)|(refine Tx 9 ?_;refine gO xA ?_)|(refine Tx 10 ?_;refine gO xM <| gO xN <| gO xM ?_))
 refine AQ (IC 9 45 6 rfl) ?_
 refine AQ (Bu 2) (Aq (fun n Fr H=>∃ k:Nat,k≤(Cr bs).length∧n=(Cr bs).length - k∧(∀ p∈((Dk bs).take (k)),OS p=false)∧Fr=ofL [(1,vd (.val (.int .i64 rd))),(2,vr 0),(8,vd (Bd false (BU (Bn bs)))),(9,vo 1 (((Dk bs).take k).length)),(49,vd (.row false 3 (Cr bs).length (Av dyP (Cr bs)))),(50,vi ((Cr bs).length)),(51,vi ((k:Nat)))]∧H=[.box 26 [.d (DJ t ps),.d (Dc t bs),.d (Bd t os)],.row 45 6 ((Dk bs).take (k)).length ((Av (dIw false) ((Dk bs).take (k))).map C.d)]) (n0:=(Cr bs).length) ⟨0,ad _,rfl,(fun p hp=>by simp at hp),rfl,rfl⟩ ?_)
 rintro n Fr H ⟨k,hk,rfl,hnf,rfl,rfl⟩
 by_cases hlt:k<(Cr bs).length
 case pos =>
  obtain ⟨p,hp⟩:∃ p,(Cr bs)[k]?=some p:=⟨_,gE hlt⟩
  have hsm:=hso.sm p (gM hp)
  have lp:=lT (hsm.lenN 128 (by decide)) (show 128≤40000 by decide)
  have PT:=Dr p hsm.ok lp
  have FR:=Wq (p,p) ((IwS.pt hsm).more (by decide) (by decide))
  have hsp:(Dk bs)[k]?=some (p,p):=by unfold Dk;rw [ag,hp];rfl
  obtain ⟨hap,hap2,hoL⟩:=XQ hsp
  cases hf:OS (p,p)
  case true =>
   rw [hf] at FR
   have hany:(Dk bs).any OS=true:=List.any_eq_true.2 ⟨_,gM hsp,hf⟩
   rw [show PP ps bs rd f=some (22,[]) from if_pos hany] at hres
   cases hres
   repeat' (with_reducible first|refine qq ?_|(refine Tx 11 ?_;refine gO xLt ?_)|refine AfO ?_|(refine Tx 15 ?_;refine gO (xMi underlying109) <| gO xA <| gO xA ?_))
   exact Ow
  case false =>
   rw [hf] at FR
   repeat' (with_reducible first|refine qq ?_|(refine Tx 11 ?_;refine gO xLt ?_)|refine AfO ?_|(refine Tx 16 ?_;refine gO xM <| gO xL <| gN (by exact Cf rfl Ag Ak rfl rfl (by decide) (by decide)) <| gT (by exact Vs rfl rfl rfl rfl rfl rfl Ag Ak (by omega) (by decide) (by decide) rfl hap hap2) <| gO xA ?_)|(refine Tx 17 ?_;refine gO xAd <| gO xM ?_))
   refine ⟨_,_,Bu 2,_,?_,k+1,by omega,rfl,Fw hnf hsp hf,rfl,rfl⟩
   ·omega
 obtain rfl:k=(Cr bs).length:=by omega
 clear hlt hk
 have htk:(Dk bs).take (Cr bs).length=Dk bs:=by rw [←hsi,bc]
 rw [htk] at hnf ⊢
 have hany:(Dk bs).any OS=false:=List.any_eq_false.2 fun p hp=>by rw [hnf p hp];decide
 rw [show PP ps bs rd f=GG ps bs rd f 1 (Dk bs) from if_neg (by rw [hany];decide)] at hres
 have hI0:=PO h0 hany
 repeat' (with_reducible first|refine qq ?_|(refine Tx 11 ?_;refine gO xLt ?_)|(refine Tx 18 ?_;refine gO xA ?_))
 refine AQ (Fu (ds:=Av (dIw false) (Dk bs)) 9 1 rfl rfl) ?_
 refine AQ (Bu 1) (Aq (fun n Fr H=>∃ (r:Nat) (l:List Iq),GG ps bs rd n r l=some res∧Tk bs l∧r+n≤1+f∧Fr=ofL [(1,vd (.val (.int .i64 rd))),(2,vr 0),(8,vd (Bd false (BU (Bn bs)))),(9,vd (.row false 6 l.length (Av (dIw false) l))),(13,vi ((r:Nat)))]∧H=[.box 26 [.d (DJ t ps),.d (Dc t bs),.d (Bd t os)]]) (n0:=f) ⟨1,_,hres,hI0,aa _,rfl,rfl⟩ ?_)
 clear hres hI0 hnf hany htk
 rintro n Fr H ⟨r,l,hres,hI,hrn,rfl,rfl⟩
 cases n
 case zero =>
  cases hres
 rename_i n
 case succ =>
  unfold GG at hres
  have hll:=hI.len
  have EV:=Th t hl (l.map Hg) (Oz hI.iw (by decide)) (by rw [af];omega)
  rw [AfM h0 hI.iw hll,MP,Oy] at EV
  by_cases hb:DK ps bs l=true
  case pos =>
   rw [if_pos hb] at hres
   cases hres
   rw [if_pos hb,Uy (by decide)] at EV
   repeat' (with_reducible first|refine qq ?_|(refine Tx 20 ?_;refine gO xL <| gO xM <| gO (xCl func85 (EV)) <| gO xMt <| gO xEx <| gO xEx <| gO xA <| gO xA ?_)|(refine Tx 21 ?_;refine gO xM <| gO (xNE Al) ?_)|(refine Tx 22 ?_;refine gO xM <| gO xA <| gO xA ?_))
   exact Ow
  rw [if_neg hb] at hres
  rw [if_neg hb,Aap rfl] at EV
  rw [aw] at hb
  unfold AmN at EV
  have hlb:=hI.lb hb
  have hvl:(rgV ps bs l).length=bs.length:=Ox
  obtain ⟨w,hwd⟩:∃ w,decide (rd<(r:Int))=w:=⟨_,rfl⟩
  rw [hwd] at hres
  repeat' (with_reducible first|refine qq ?_|(refine Tx 20 ?_;refine gO xL <| gO xM <| gO (xCl func85 (EV)) <| gO xMt <| gO xEx <| gO xEx <| gO xA <| gO xA ?_)|(refine Tx 21 ?_;refine gO xM <| gO (xNE Al) ?_)|(refine Tx 23 ?_;refine gO xA ?_)|(refine Tx 24 ?_;refine gO xM <| gO xN <| gN (by first|exact Tc (n:=l.length) rfl rfl rfl Ag Ak (by omega) (by decide)|exact Bs rfl rfl rfl Ag Ak (by omega) (by decide)) <| gO xA ?_)|(refine Tx 25 ?_;refine gO xM <| gO xN <| gO xM ?_))
  refine AQ (Bu 2 (hH:=by rw [←Apg,←hll];rfl) (h:=by rw [←hnl];exact mB rfl rfl)) (Aq (fun n Fr H=>∃ k:Nat,k≤(Bn bs).length∧n=(Bn bs).length - k∧Fr=ofL [(1,vd (.val (.int .i64 rd))),(2,vr 0),(8,vd (Bd false (BU (Bn bs)))),(9,vd (.row false 6 l.length (Av (dIw false) l))),(13,vi ((r:Nat))),(14,vd (.row false 6 (rgV ps bs l).length (Av (dIw false) (rgV ps bs l)))),(16,vd (.val (.bool (Ws ps bs l k)))),(17,vo 1 l.length),(79,vd (Bd false (BU (Bn bs)))),(80,vi ((Bn bs).length)),(81,vi ((k:Nat)))]∧H=[.box 26 [.d (DJ t ps),.d (Dc t bs),.d (Bd t os)],.row 45 6 l.length (kWs (nxS ps bs w l (k)))]) (n0:=(Bn bs).length) ⟨0,ad _,rfl,rfl,rfl⟩ ?_)
  rintro m Fr H ⟨k,hk,rfl,rfl,rfl⟩
  by_cases hlt:k<(Bn bs).length
  case pos =>
   obtain ⟨i,hi⟩:∃ i,(Bn bs)[k]?=some i:=⟨_,gE hlt⟩
   have hid:=Od hi
   have hil:=hid.1
   obtain ⟨y,hy⟩:∃ y,bs[i]?=some y:=⟨_,gE hil⟩
   have hk2:=hid.2
   rw [LA hy] at hk2
   obtain ⟨b,hA0,hbl⟩:=Aas h0 hy hk2
   obtain ⟨rr,hr,_,hrs⟩:=Abh h0 hlb hll hb hbl
   have hal:=(gS.1 hA0).1
   obtain ⟨a,ha⟩:∃ a,l[k]?=some a:=⟨_,gE (by omega)⟩
   have has:=hlb a (gM ha)
   have has2:=has.more LBx LBx
   have hrs2:=hrs.more LBx LBx
   have HU:=Oq a rr has2 hrs2
   have RO:CV prog Ah 175 [aIw false (Ik a rr),aI (64:Int)] [aIw false (Ep a rr),aE 0]:=XK (Ik a rr) 64 (has2.hull hrs2) (by decide)
   obtain ⟨hq,_,_,_,_⟩:=Abk has hrs
   have q1:=hq.s1
   have q2:=hq.s2
   have l1:=lT (q1.lenN 128 (by decide)) (show 128≤40000 by decide)
   have l2:=lT (q2.lenN 128 (by decide)) (show 128≤40000 by decide)
   have m1:=lT (has.s1.lenN 128 (by decide)) (show 128≤40000 by decide)
   have m2:=lT (has.s2.lenN 128 (by decide)) (show 128≤40000 by decide)
   have C1:=BZ (Ep a rr).1.1 (Ep a rr).1.2 a.1.1 a.1.2 q1.ok has.s1.ok l1 m1
   have C2:=BZ (Ep a rr).2.1 (Ep a rr).2.2 a.2.1 a.2.2 q2.ok has.s2.ok l2 m2
   have hb1:(BI (Ep a rr).1.1 (Ep a rr).1.2 a.1.1 a.1.2 != 0)=loC a rr:=AfN q1 has.s1
   have hb2:(BI (Ep a rr).2.1 (Ep a rr).2.2 a.2.1 a.2.2 != 0)=hiC a rr:=AfN q2 has.s2
   have NG1:=FS (Ep a rr).1.1 (Ep a rr).1.2 q1.ok l1
   obtain ⟨u1,_,_⟩:Sm (upP (IQ (Ep a rr).1)) 20000 20000∧gv (IQ (Ep a rr).1)≤gv (upP (IQ (Ep a rr).1))∧inU (gv (upP (IQ (Ep a rr).1))):=UH q1.neg
   have UP1:=Abi (IQ (Ep a rr).1) (q1.neg.more (by decide) (by decide))
   have NG2:=FS (upP (IQ (Ep a rr).1)).1 (upP (IQ (Ep a rr).1)).2 u1.ok u1.lz
   have UP2:=Abi (Ep a rr).2 (q2.more (by decide) (by decide))
   obtain ⟨hck,hnx⟩:=Abn hi hy hA0 ha hr
   have tl:k<(nxS ps bs w l k).length:=by rw [Abm];exact hlt
   have stV:=Aja (ps:=ps) (bs:=bs) (w:=w) (l:=l) hlt
   rw [hnx w,show DV w a rr=(if (decide (rd<(r:Int)) && loC a rr)=true then IQ (upP (IQ (Ep a rr).1)) else (Ep a rr).1,if (decide (rd<(r:Int)) && hiC a rr)=true then upP (Ep a rr).2 else (Ep a rr).2) from by rw [hwd];rfl] at stV
   clear hq
   generalize upP (IQ (Ep a rr).1)=u at *
   generalize upP (Ep a rr).2=v at *
   generalize Ep a rr=q at *
   repeat' (with_reducible first|refine qq ?_|(refine Tx 26 ?_;refine gO xLt ?_)|(refine Tx 27 ?_;refine gO xM <| gO (by first|exact xIr Ad (AI (Oc hi))|exact xIr Ad (Im ha)) <| gO xD <| gO xA <| gO xA ?_)|(refine Mp (id:=28) 21 [(21,19)] AV (by kernel_rfl) ?_;dsimp only [List.take,List.drop];refine gP xM <| gP xM <| gP (xIr Ag (Im ha)) <| gP xL <| gP xM <| gP xF <| gP xD <| gP xM <| gP (by first|exact xIr Ai (Dj hy)|exact xIr Ai (Im ha)) <| gP xF <| gP xD <| gP (by first|exact xIr Ad (AI hA0)|exact xIr Ad (Im ha)) <| gP xD <| gP (by first|exact xIr Ag (Im hr)|exact xIr Ag (Im ha)) <| gP xL <| gP (xCl func142 (HU)) <| gP (xCl func175 (RO)) <| gP xMt <| gP (by exact DB rfl rfl rfl) <| gP xEx <| gQ (xAl Ak) ?_;refine Ke ?_;refine gZ (xSk Ac) <| gO xA ?_)|(refine Tx 29 ?_;refine gO xM <| gO (xNE Al) ?_)|(refine Ca (id:=31) AV (by kernel_rfl) ?_;refine gP xF <| gP xL <| gP xM <| gP xM <| gP (xIr Ag (Im ha)) <| gP xF <| gP xL <| gP (xCl func15 (C1)) <| gP (by first|exact Uc rfl rfl rfl hb1|exact xNe) <| gP xF <| gP xL <| gP xM <| gP xM <| gP (xIr Ag (Im ha)) <| gP xF <| gP xL <| gP (xCl func15 (C2)) <| gP (by first|exact Uc rfl rfl rfl hb2|exact xNe) <| gP xA <| gP xA ?_;refine Ke ?_))
   refine AQ (F':=ofL [(1,vd (.val (.int .i64 rd))),(2,vr 0),(8,vd (Bd false (BU (Bn bs)))),(9,vd (.row false 6 l.length (Av (dIw false) l))),(13,vi ((r:Nat))),(14,vd (.row false 6 (rgV ps bs l).length (Av (dIw false) (rgV ps bs l)))),(16,vd (.val (.bool (Ws ps bs l k)))),(17,vo 1 l.length),(79,vd (Bd false (BU (Bn bs)))),(80,vi ((Bn bs).length)),(81,vi ((k:Nat))),(18,vi ((k:Nat))),(20,vr 2),(22,vd (.val (.bool (loC a rr)))),(23,vd (.val (.bool (hiC a rr))))]) (H':=[.box 26 [.d (DJ t ps),.d (Dc t bs),.d (Bd t os)],.row 45 6 l.length (kWs (nxS ps bs w l k)),.box 45 ((dIw false q).map C.d)]) (Bu 3) ?_
   clear hb1 hb2 C1 C2 HU RO m1 m2 SC EV DL
   cases hb1:loC a rr <;> cases hb2:hiC a rr <;> cases hc:Ws ps bs l k <;> by_cases hw:rd<(r:Int)
   all_goals
    rw [hb1,hb2] at stV
    simp only [hw,decide_true,decide_false,em,fw,gn,if_true,if_false] at stV
    skip
    repeat' (with_reducible first|refine qq ?_|(refine Tx 32 ?_;refine gO xM <| gO xM ?_;(first|refine Jd ?_|refine Jy xM1 ?_);refine gO xPk <| gO xM ?_;(first|refine Jd ?_|refine Jy xM1 ?_);refine gO xPk <| gO xA ?_)|(refine Tx 33 ?_;refine gO xM <| gO xM <| gO xGt <| gO xM ?_;(first|refine Jd ?_|refine Jy xM1 ?_);refine gO xPk ?_)|(refine Tx 34 ?_;refine gO xF <| gO xL <| gO (xCl func176 (NG1)) <| gO (xCl func177 (UP1)) <| gO (xCl func176 (NG2)) <| gO xF <| gZ (xSk Aa) ?_)|(refine Tx 35 ?_;refine gO xM <| gO xM <| gO xGt <| gO xM ?_;(first|refine Jd ?_|refine Jy xM1 ?_);refine gO xPk ?_)|(refine Tx 36 ?_;refine gO xF <| gO xL <| gO (xCl func177 (UP2)) <| gO xF <| gZ (xSk Aa) ?_)|(refine Tx 37 ?_;refine gO xM <| gO xM <| gO xL <| gO (xIo (i:=k) Ag) <| gZ AiW ?_)|(refine Tx 38 ?_;refine gO xAd <| gO xM ?_))
    refine ⟨_,_,Bu 2 (h:=by rw [hck,hc,hb1,hb2];exact mB rfl rfl),_,?_,k+1,by omega,rfl,rfl,rfl⟩
    ·omega
  obtain rfl:k=(Bn bs).length:=by omega
  clear hlt hk
  rw [Ajb]
  have hnL:(CF ps bs w l).length=(Bn bs).length:=Tl w
  by_cases hch:Ws ps bs l (Bn bs).length=false
  case pos =>
   rw [if_pos hch] at hres
   cases hres
   rw [hch]
   repeat' (with_reducible first|refine qq ?_|(refine Tx 26 ?_;refine gO xLt ?_)|(refine Tx 39 ?_;refine gO xM <| gO XO ?_)|(refine Tx 40 ?_;refine gO xM <| gO xA <| gO xA ?_))
   exact Ax rfl (.cons_ (.tmp (.one (AX rfl fun _=>.row (Cc (f:=dIw false) EH l)))) (.cons_ (Gl rfl rfl) .nil_))
  rw [if_neg hch] at hres
  rw [ia] at hch
  rw [hch]
  repeat' (with_reducible first|refine qq ?_|(refine Tx 26 ?_;refine gO xLt ?_)|(refine Tx 39 ?_;refine gO xM <| gO XO ?_))
  refine AQ (Fu (ds:=Av (dIw false) (CF ps bs w l)) 17 1 rfl rfl) ?_
  repeat' (with_reducible first|refine qq ?_|(refine Tx 41 ?_;refine gO xM <| gO xN <| gO xM ?_))
  refine AQ (Bu 1 (h:=by rw [hnL,←hll];exact mB rfl rfl)) (Aq (fun n Fr H=>∃ k:Nat,k≤(CF ps bs w l).length∧n=(CF ps bs w l).length - k∧(∀ p∈(CF ps bs w l).take k,OS p=false)∧Fr=ofL [(1,vd (.val (.int .i64 rd))),(2,vr 0),(8,vd (Bd false (BU (Bn bs)))),(13,vi ((r:Nat))),(17,vd (.row false 6 (CF ps bs w l).length (Av (dIw false) (CF ps bs w l)))),(164,vd (.row false 6 (CF ps bs w l).length (Av (dIw false) (CF ps bs w l)))),(165,vi ((CF ps bs w l).length)),(166,vi ((k:Nat)))]∧H=[.box 26 [.d (DJ t ps),.d (Dc t bs),.d (Bd t os)]]) (n0:=(CF ps bs w l).length) ⟨0,ad _,rfl,(fun p hp=>by simp at hp),rfl,rfl⟩ ?_)
  rintro m Fr H ⟨k,hk,rfl,hnf,rfl,rfl⟩
  by_cases hlt:k<(CF ps bs w l).length
  case pos =>
   obtain ⟨x,hx⟩:∃ x,(CF ps bs w l)[k]?=some x:=⟨_,gE hlt⟩
   have hxs:IwS x 20000 20000:=by
    obtain ⟨j,hj,rfl⟩:=List.mem_map.1 (gM hx)
    have hj:=List.mem_range.1 hj
    exact (UI (hlb _ (IW (by omega) iZ)) (Wu h0 hI hb hj)).1
   have FR:=Wq x hxs
   cases hf:OS x
   case true =>
    rw [hf] at FR
    have hany:(CF ps bs w l).any OS=true:=List.any_eq_true.2 ⟨_,gM hx,hf⟩
    rw [if_pos hany] at hres
    cases hres
    repeat' (with_reducible first|refine qq ?_|(refine Tx 42 ?_;refine gO xLt ?_)|(refine Tx 43 ?_;refine gO (xIr Ag (Im hx)) <| gO xL <| gN (xAl Ak) <| gZ (xSk Ac) ?_)|(refine Tx 44 ?_;refine gO xL <| gO (xCl func174 (FR)) ?_)|(refine Tx 45 ?_;refine gO (xMi underlying109) <| gO xA <| gO xA ?_))
    exact Ow
   case false =>
    rw [hf] at FR
    repeat' (with_reducible first|refine qq ?_|(refine Tx 42 ?_;refine gO xLt ?_)|(refine Tx 43 ?_;refine gO (xIr Ag (Im hx)) <| gO xL <| gN (xAl Ak) <| gZ (xSk Ac) ?_)|(refine Tx 44 ?_;refine gO xL <| gO (xCl func174 (FR)) ?_)|(refine Tx 46 ?_;refine gO xAd <| gO xM ?_))
    refine ⟨_,_,Bu 1,_,?_,k+1,by omega,rfl,Fw hnf hx hf,rfl,rfl⟩
    ·omega
  obtain rfl:k=(CF ps bs w l).length:=by omega
  clear hlt hk
  rw [bc] at hnf
  have hany:(CF ps bs w l).any OS=false:=List.any_eq_false.2 fun p hp=>by rw [hnf p hp];decide
  rw [if_neg (by rw [hany];decide)] at hres
  repeat' (with_reducible first|refine qq ?_|(refine Tx 42 ?_;refine gO xLt ?_)|(refine Tx 47 ?_;refine gO xM <| gO xA ?_)|(refine Tx 19 ?_;refine gO xM <| gO xAd <| gO xA ?_))
  refine ⟨_,_,Bu 1,n,kg n,r+1,(CF ps bs w l),hres,hI.next h0 hb w hany,by omega,rfl,rfl⟩
theorem AmV (n e f:Int):CVF prog Ah 117 [.agg [dI n,dI e],aI f] [aI (Acm n e f),aE (ED n e f)]:=fun w S vs hg hlt ha=>by
 obtain ⟨v,vs',rfl,h1,ha⟩:=ha.uncons
 obtain ⟨u,hu,h2⟩:=BB ha
 subst hu
 obtain ⟨xs,rfl,h3⟩:=h1
 have h4:=IJ (vs:=[.int .i64 n,.int .i64 e]) h3
 subst h4
 cases h2
 refine (Adi n e f w hg).mono fun r w' ⟨he,hb⟩=>?_
 exact ⟨_,he,NI (Br.val rfl) (Br.val (AcT _)),hb⟩
def flP:List Prt:=[⟨-1,1,0⟩]
def flB:List Bk:=[⟨0,none,[0],0,0,0,0,0⟩,⟨6,none,[3],0,1,-1,0,0⟩,⟨3,none,[0,1],0,0,0,0,0⟩,⟨2,none,[2],0,0,0,0,0⟩]
def flO:List Int:=[2]
theorem Abo:CV prog Ah 74 [] [aDg false flP flB flO]:=by
 refine cvz func74 ntmps74 ?_
 repeat' (with_reducible first|refine qq ?_|(refine Tx 0 ?_;refine gN (xAl Pn) ?_)|(refine Tx 1 ?_;refine gO (by exact AO rfl Ahp rfl rfl) <| gN (by exact Cf rfl Di Nu rfl rfl (by decide) (by decide)) <| gN (by exact Cf rfl Ad CJ rfl rfl (by decide) (by decide)) <| gN (by exact Cf rfl Ad CJ rfl rfl (by decide) (by decide)) <| gO (by exact AO rfl Mr rfl rfl) <| gN (by exact Cf rfl Ad CJ rfl rfl (by decide) (by decide)) <| gO (by exact AO rfl Gs rfl rfl) <| gO (by exact AO rfl Mr rfl rfl) <| gN (by exact Gu rfl Ad CJ rfl rfl rfl rfl (by decide) (by decide)) <| gO (by exact AO rfl Mr rfl rfl) <| gN (by exact Cf rfl Ad CJ rfl rfl (by decide) (by decide)) <| gO (by exact AO rfl Mr rfl rfl) <| gN (by exact Fm rfl rfl Ai Bt (by decide) (by decide) (by decide) rfl rfl rfl) <| gO (by exact AO rfl Xg rfl rfl) <| gZ (xSk BK) ?_))
 exact Ax rfl (.cons_ (Afb rfl rfl BK rfl rfl (by first|((repeat' first|exact Bh rfl rfl|refine Au rfl rfl ?_ ?_|refine DM rfl rfl ?_|refine BW rfl rfl ?_|exact AX rfl (fun _=>DQ.val _)|exact Ho rfl rfl|exact cexp_e rfl rfl|refine Cg rfl rfl rfl ?_) <;> fail)|fail)) .nil_)
theorem AfP {α:Type} {p:α→Bool} {l:List α} {k:Nat} {x:α} (h:l[k]?=some x) (hp:p x=false):l.all p=false:=List.all_eq_false.2 ⟨x,gM h,by rw [hp];exact Bool.false_ne_true⟩
theorem Abp (h0:Bc ps bs os=0) (hl:EB ps bs os) (rd:Int) (r1:rd≤16):∃ (f:Nat) (e:Int) (l:List Iq),f≤1000000000∧PP ps bs rd f=some (e,l)∧((e=0∧Tk bs l∧DK ps bs l=false∧XP ps bs l=true)∨((e=4∨e=22)∧l=[])):=by
 have hdb:=LD bs
 have hl2:=hl.l2
 refine ⟨300000000,?_⟩
 unfold PP
 by_cases hf:(Dk bs).any OS=true
 ·exact ⟨22,[],by decide,by rw [if_pos hf],.inr ⟨.inr rfl,rfl⟩⟩
 ·rw [if_neg hf]
  rw [aw] at hf
  have hI:=PO h0 hf
  obtain ⟨⟨e,l⟩,hr⟩:=PN (rd:=rd) h0 20 300000000 1 (Dk bs) hI (by omega) (by omega)
  exact ⟨e,l,by decide,hr,Wv h0 _ _ _ _ _ hI hr⟩
section
variable {ps:List Prt} {bs:List Bk} {os:List Int} {st:List Iq}
def Dv (V:List Iq) (y:Bk):List Iq:=if y.kind=0 then [] else y.args.map fun a=>V[a.toNat]?.getD iZ
theorem Cv {V:List Iq} (h:y.kind≠0) {k:Nat} {a:Int} (ha:y.args[k]?=some a) {p:Iq} (hp:V[a.toNat]?=some p):(Dv V y)[k]?=some p:=by
 unfold Dv
 rw [if_neg h,ag,ha,cw,hp]
 rfl
theorem Eb {V:List Iq} (hV:∀ p∈V,IwS p LB LB):∀ p∈Dv V y,IwS p LB LB:=fun p hp=>by
 unfold Dv at hp
 split at hp
 ·cases hp
 ·obtain ⟨a,_,rfl⟩:=List.mem_map.1 hp
  exact Bx hV _
theorem Abq (he:Bc ps bs os=0) (hs:∀ p∈st,IwS p LB LB) (hl:st.length=(Bn bs).length) (hb:DK ps bs st=false):∀ p∈rgV ps bs st,IwS p LB LB:=fun p hp=>by
 obtain ⟨i,hi⟩:=List.mem_iff_getElem?.1 hp
 have hil:=(gS.1 hi).1
 rw [Ox] at hil
 obtain ⟨q,hq,_,hs⟩:=Abh he hs hl hb hil
 rw [hi] at hq
 cases hq
 exact hs
end
structure Ct where
 F:List Int
 R:List Iq
 E:List Pq
def dCt (u:Bool) (c:Ct):List D:=[Bd u c.F,.row false 6 c.R.length (Av (dIw false) c.R),.row false 3 c.E.length (Av dyP c.E)]
def rowE (E:List Pq):D:=.row false 3 E.length (Av dyP E)
abbrev eG (E:List Pq) (a:Int):Pq:=E[a.toNat]?.getD (0,0)
abbrev rG (R:List Iq) (a:Int):Iq:=R[a.toNat]?.getD iZ
abbrev sG (F:List Int) (a:Int):Int:=scA F a.toNat
def inK (k:Int):Bool:=decide (-62≤k∧k≤30)
def frB (f:Int):Bool:=decide (0≤f∧f≤30)
def rwB (n e f:Int):Bool:=decide (ED n e f=0)
def UJ (ps:List Prt) (F:List Int) (y:Bk) (s:Int):Bool :=
 if y.kind=0 then inK (s - VZ ps (Cp y))
 else if y.kind=1 then rwB y.vn y.ve s
 else if y.kind=6 then inK (s - sG F (Cp y)+y.ve)
 else if y.kind=7 then inK (s - sG F (Cp y) - sG F (EN y))
 else if y.kind=2 then inK (s - sG F (Cp y)) && rwB y.vn y.ve s
 else if y.kind=11 then inK (s - sG F (Cp y)) && rwB y.vn y.ve s && rwB y.un y.ue s
 else y.args.all fun a=>inK (s - sG F a)
def Ef (ps:List Prt) (F:List Int) (y:Bk) (i:Nat):Bool :=
 frB (scA F i) && ((decide (y.kind=0) || y.args.all fun a=>frB (sG F a)) && UJ ps F y (scA F i))
def Mi (ps:List Prt) (R:List Iq) (y:Bk):Iq :=
 if y.kind=2 then Ik (Ae y.vn 0 y.ve,Ae y.vn 0 y.ve) (rG R (Cp y)) else Bv y (Dv R y) ps
def CS (ps:List Prt) (R:List Iq) (y:Bk) (i:Nat):Bool:=iIn (Mi ps R y) (R[i]?.getD iZ)
def Bf (n e f:Int):Bool:=decide ((DP (Ae n 0 e) f).2=0)
def ixP (b:Bool) (s:Int):Pq:=if b=true then pw (-s) else (0,0)
def mvP (F:List Int) (E:List Pq) (s a:Int):Pq:=if sG F a≤s then eG E a else Dn (eG E a) (pw (-s))
def Aw (ps:List Prt) (F:List Int) (R:List Iq) (E:List Pq) (y:Bk) (s:Int):Pq :=
 if y.kind=0 then ixP (decide (s<VZ ps (Cp y))) s
 else if y.kind=1 then ixP (!Bf y.vn y.ve s) s
 else if y.kind=3∨y.kind=4 then Dn (mvP F E s (Cp y)) (mvP F E s (EN y))
 else if y.kind=5∨y.kind=10 then mvP F E s (Cp y)
 else if y.kind=8∨y.kind=9 then Gz (mvP F E s (Cp y)) (mvP F E s (EN y))
 else if y.kind=6 then Dn (CB (FW (Ae y.vn 0 y.ve)) (eG E (Cp y))) (ixP (decide (s - sG F (Cp y)+y.ve<0)) s)
 else if y.kind=7 then Dn (Dn (Dn (CB (FX (rG R (Cp y))) (eG E (EN y))) (CB (FX (rG R (EN y))) (eG E (Cp y)))) (CB (eG E (Cp y)) (eG E (EN y)))) (ixP (decide (s - sG F (Cp y) - sG F (EN y)<0)) s)
 else if y.kind=11 then Gz (mvP F E s (Cp y)) (ixP (!Bf y.vn y.ve s || !Bf y.un y.ue s) s)
 else Gz (mvP F E s (Cp y)) (ixP (!Bf y.vn y.ve s) s)
def Gd (x:Pq) (f:Int):Bool:=decide (Ir (DP x f) (2147483647,0)≤0)
def Rx (F:List Int) (R:List Iq) (E:List Pq) (y:Bk) (i:Nat):Bool :=
 Gd (Dn (FX (R[i]?.getD iZ)) (E[i]?.getD (0,0))) (scA F i) && (!decide (y.kind=11) || Gd (Dn (rG R (Cp y)).2 (eG E (Cp y))) (scA F i))
def FY (ps:List Prt) (bs:List Bk) (c:Ct) (i:Nat):Int :=
 let y:=Aod bs i
 if Ef ps c.F y i=false then 1 else if CS ps c.R y i=false then 2
 else if Ir (c.E[i]?.getD (0,0)) (Aw ps c.F c.R c.E y (scA c.F i))<0 then 3 else if Rx c.F c.R c.E y i=false then 4 else 0
def upQ (x:Pq):Pq:=XF x 62
def Acn (x:Pq):Bool:=decide (0<Ir x (1099511627776,0))
structure Aph (bs:List Bk) (c:Ct):Prop where
 lF:c.F.length=bs.length
 lR:c.R.length=bs.length
 lE:c.E.length=bs.length
 sR:∀ p∈c.R,IwS p LB LB
 sE:∀ p∈c.E,Sm p LB LB
 nE:∀ p∈c.E,0≤gv p
theorem ER {d:Nat} (h:∀ p∈E,Sm p n d) (a:Int):Sm (eG E a) n d:=Df h _
theorem Ajc {d:Nat} (h:∀ p∈R,IwS p n d) (a:Int):IwS (rG R a) n d:=Bx h _
theorem Tm (h0:0≤s) (h1:s≤30):Sm (pw (-s)) 31 30:=UG (n:=30) (by omega) (by omega) (by decide)
theorem Api (h0:0≤s) (h1:s≤30):gv (pw (-s))=2 ^ (65536 - s.toNat):=by rw [Mh (by omega) (by omega)];congr 1;omega
theorem IY {b:Bool} (h0:0≤s) (h1:s≤30):Sm (ixP b s) 31 30:=by
 unfold ixP
 split
 ·exact Tm h0 h1
 ·exact Sm.zero _ _
theorem DW (h0:0≤s) (h1:s≤30) (hE:∀ p∈E,Sm p LB LB) (a:Int):Sm (mvP F E s a) 8200 LB:=by
 unfold mvP
 split
 ·exact (ER hE a).more (by decide) (by decide)
 ·exact (Sm.sum (ER hE a) ((Tm h0 h1).more (n':=LB) (d':=LB) (by decide) (by decide)) (by decide)).more (by decide) (by decide)
theorem FE {p:Pq} {d:Nat} (h:Sm p n d) {f:Int} (f0:0≤f) (f1:f≤30):Sm (DP p f) (n+30) d:=by
 show Sm (Ae p.1 p.2 f) (n+30) d
 unfold Ae
 rw [show max (-65536) (min f 65536)=f by omega,if_neg (by omega)]
 refine Sm.mk_nf h.d h.ok.le ?_
 rw [gf,fm,show Int.natAbs 2=2 from rfl,bd]
 have h1:2 ^ f.toNat≤2 ^ 30:=ap (by decide) (by omega)
 have h2:(0:Nat)<2 ^ f.toNat:=ax _
 exact aj (jh h.n h2) (gb _ h1)
theorem IZ {d:Nat} (h:IwS a n d):Sm (FX a) n d:=h.abs.s2
theorem MQ (h0:0≤s) (h1:s≤30) (hR:∀ p∈R,IwS p LB LB) (hE:∀ p∈E,Sm p LB LB) (hv:y.kind=6→DE y.vn y.ve):Sm (Aw ps F R E y s) 40064 9000:=by
 have ix:∀ b,Sm (ixP b s) 16000 8192:=fun b=>(IY h0 h1).more (by decide) (by decide)
 have mv:∀ a,Sm (mvP F E s a) 8200 LB:=DW h0 h1 hE
 unfold Aw
 split
 ·exact (ix _).more (by decide) (by decide)
 split
 ·exact (ix _).more (by decide) (by decide)
 split
 ·exact (Sm.sum (mv _) (mv _) (by decide)).more (by decide) (by decide)
 split
 ·exact (mv _).more (by decide) (by decide)
 split
 ·exact (Sm.max (mv _) (mv _)).more (by decide) (by decide)
 split
 ·next h=>exact (Sm.sum ((Sm.mul (FB (hv h)).abs (ER hE _) (by decide)).more (n':=16000) (d':=8192) (by decide) (by decide)) (ix _) (by decide)).more (by decide) (by decide)
 split
 ·have m1:∀ a b,Sm (CB (FX (rG R a)) (eG E b)) 8192 8192:=fun a b=>Sm.mul (IZ (Ajc hR a)) (ER hE b) (by decide)
  have m2:∀ a b,Sm (CB (eG E a) (eG E b)) 8192 8192:=fun a b=>Sm.mul (ER hE a) (ER hE b) (by decide)
  have s1:=Sm.sum (m1 (Cp y) (EN y)) (m1 (EN y) (Cp y)) (by decide)
  have s2:=Sm.sum s1 ((m2 (Cp y) (EN y)).more (n':=16385) (d':=8192) (by decide) (by decide)) (by decide)
  exact (Sm.sum s2 ((IY h0 h1).more (n':=24578) (d':=8192) (by decide) (by decide)) (by decide)).more (by decide) (by decide)
 split
 ·exact (Sm.max (mv _) ((IY h0 h1).more (by decide) (by decide))).more (by decide) (by decide)
 ·exact (Sm.max (mv _) ((IY h0 h1).more (by decide) (by decide))).more (by decide) (by decide)
theorem AfQ {x:Pq} (h:x.2≤GQ):gv x≤gv (upQ x)∧gv (upQ x)<gv x+2 ^ (GQ - 62)∧∃ k:Int,gv (upQ x)=k*2 ^ (GQ - 62):=by
 obtain ⟨a,b,k,c⟩:=QW (p:=(-x.1,x.2)) (den:=62) h (by decide)
 have e:gv (upQ x) = -gv (Bg (-x.1) x.2 62):=Hp _
 have f:gv (-x.1,x.2) = -gv x:=Hp x
 dsimp only at a b c
 rw [f] at a b
 rw [e]
 generalize gv (Bg (-x.1) x.2 62)=w at *
 refine ⟨by omega,by omega,-k,?_⟩
 rw [c,dq]
section
variable {P:Program} {G:World→Prop} {o:Oper} {F:Frm} {H:List Ob}
theorem AmW {f:FuncId} (ho:o.op=.assign (.func f)):AN P G o F H (.one (.clo (.func f) [])) []:=BN fun b0 m a _ _ hor=>by
 refine ⟨.func (.func f) #[] #[],?_,[],rfl,AY.nil_⟩
 unfold execOp
 simp [ho,Act.eval]
end
theorem TD {k:Nat} (h:k<R.length):R[k]?=some (R[k]?.getD iZ):=by rw [gE h];rfl
theorem eg_c {k:Nat} (h:k<E.length):E[k]?=some (E[k]?.getD (0,0)):=by rw [gE h];rfl
theorem OT {k:Nat} (h:k<F.length):F[k]?=some (scA F k):=by unfold scA;rw [gE h];rfl
structure Aco (ps:List Prt) (n:Nat) (y:Bk):Prop where
 hk:y.kind=0∨y.kind=1∨y.kind=2∨y.kind=3∨y.kind=4∨y.kind=5∨y.kind=6∨y.kind=7∨y.kind=8∨y.kind=9∨y.kind=10∨y.kind=11
 a0:y.kind≠1→∃ a:Nat,y.args[0]?=some (a:Int)∧Cp y=(a:Int)∧(y.kind≠0→a<n)
 a1:(y.kind=3∨y.kind=4∨y.kind=7∨y.kind=8∨y.kind=9)→∃ a:Nat,y.args[1]?=some (a:Int)∧EN y=(a:Int)∧a<n
 all:y.kind≠0→∀ a∈y.args,0≤a∧a<(n:Int)
 len:y.args.length≤2
 port:y.kind=0→∃ (i:Nat) (p:Prt),y.args[0]?=some (i:Int)∧Cp y=(i:Int)∧ps[i]?=some p∧Rh p
 sv:(y.kind=1∨y.kind=2∨y.kind=6∨y.kind=11)→DE y.vn y.ve
 su:y.kind=11→DE y.un y.ue
 cl:y.kind=11→Ir (Ae y.vn 0 y.ve) (Ae y.un 0 y.ue)≤0
theorem UK (he:Bc ps bs os=0) {i:Nat} {y:Bk} (hy:bs[i]?=some y):Aco ps bs.length y:=by
 have hac:=GY he hy
 have hcg:=hac.1
 have hck:=hac.2.1
 have hlen:y.args.length≤2:=by unfold Bp at hcg hck;(repeat' split at hck) <;> omega
 refine ⟨Wb he hy,fun h1=>?_,fun h2=>?_,fun h0 a ha=>?_,hlen,fun h0=>?_,fun h=>?_,fun h=>(MF he hy h).2.1,fun h=>(MF he hy h).2.2⟩
 ·have hl:1≤y.args.length:=by unfold Bp at hcg hck;(repeat' split at hck) <;> omega
  obtain ⟨a,ha⟩:∃ a,y.args[0]?=some a:=⟨_,gE (by omega)⟩
  have hb:=hac.2.2 a (gM ha)
  refine ⟨a.toNat,by rw [ha];congr 1;omega,by unfold Cp;rw [ha];show a=_;omega,fun h0=>?_⟩
  rw [show Ei ps.length bs.length y.kind=bs.length from if_neg h0] at hb
  omega
 ·have hl:2≤y.args.length:=by unfold Bp at hcg hck;(repeat' split at hck) <;> omega
  obtain ⟨a,ha⟩:∃ a,y.args[1]?=some a:=⟨_,gE (by omega)⟩
  have hb:=hac.2.2 a (gM ha)
  rw [show Ei ps.length bs.length y.kind=bs.length from if_neg (by omega)] at hb
  exact ⟨a.toNat,by rw [ha];congr 1;omega,by unfold EN;rw [ha];show a=_;omega,by omega⟩
 ·have hb:=hac.2.2 a ha
  rwa [show Ei ps.length bs.length y.kind=bs.length from if_neg h0] at hb
 ·have hl:y.args.length=1:=by rw [h0] at hck;simp [Bp] at hck;omega
  obtain ⟨a,ha⟩:∃ a,y.args[0]?=some a:=⟨_,gE (by omega)⟩
  have hb:=hac.2.2 a (gM ha)
  rw [show Ei ps.length bs.length y.kind=ps.length from if_pos h0] at hb
  obtain ⟨p,hp⟩:∃ p,ps[a.toNat]?=some p:=⟨_,gE (by omega)⟩
  exact ⟨a.toNat,p,by rw [ha];congr 1;omega,by unfold Cp;rw [ha];show a=_;omega,hp,Td he hp⟩
 ·exact LQ he hy (by unfold OJ;rcases h with h|h|h|h <;> rw [h] <;> rfl)
theorem UM {p:Prt} (h:ps[i]?=some p):VZ ps (i:Int)=p.fr:=by unfold VZ;rw [am,h];rfl
theorem OA (s:Int) (s0:0≤s) (s1:s≤62):CV prog Ah 218 [aI s] [aDy false (pw (-s)).1 (pw (-s)).2]:=by
 refine cvz func218 ntmps218 ?_
 have OF:=Ff 1 (by decide) (by decide)
 have SH:=BH 1 0 (-s) ⟨by decide,fun h=>absurd rfl h⟩ (lT (AC (k:=2) (by decide)) (by decide)) (by omega)
 repeat' (with_reducible first|refine qq ?_|(refine Tx 0 ?_;refine gN (xAl Aj) ?_)|(refine Tx 1 ?_;refine gO (xCl func68 (OF)) <| gO xM <| gO XO <| gO (xCl func21 (SH)) <| gZ (xSk Aa) ?_))
 exact PJ
theorem FZ (n e:Int) (hs:DE n e):CV prog Ah 219 [.agg [dI n,dI e]] [aDy false (Ae n 0 e).1 (Ae n 0 e).2]:=by
 refine cvz func219 ntmps219 ?_
 have VA:=QT n e
 exact AfF
theorem AfR (k:p') (h:Hd9 p'→p:=by with_reducible first|(intro Z9;refine qq ?_;exact Z9.o)|(intro Z9;refine Tx 0 ?_;refine gN xBo <| gO xA ?_;exact Z9.o)|(intro Z9;refine Tx 1 ?_;refine gO xL <| gO (xCl func219 (RV)) <| gO xM <| gO (xCl func21 (SH)) <| gN (xAl Aj) <| gZ (xSk Aa) ?_;exact Z9.o)|(intro Z9;refine Tx 2 ?_;refine gO xF <| gO xD <| gO xEq <| gO xA ?_;exact Z9.o)|fail):p:=h ⟨k⟩
theorem Hd (n e f:Int) (hs:DE n e) (f0:0≤f) (f1:f≤30):CV prog Ah 222 [.agg [dI n,dI e],aI f] [aB (Bf n e f)]:=by
 refine cvz func222 ntmps222 ?_
 have RV:=FZ n e hs
 have sm:=FB hs
 have SH:=BH (Ae n 0 e).1 (Ae n 0 e).2 f sm.ok sm.lz (by have:=sm.ok.1;omega)
 obtain ⟨q,hq⟩:∃ q,Ae (Ae n 0 e).1 (Ae n 0 e).2 f=q:=⟨_,rfl⟩
 rw [hq] at SH
 rw [show Bf n e f=decide (q.2=0) by unfold Bf;rw [←hq]]
 by_cases h0:q.2=0
 case pos =>
  repeat' (with_reducible first|refine AfR ?_)
  exact Ax rfl (.cons_ (DD rfl ((decide_eq_true h0).symm)) .nil_)
 repeat' (with_reducible first|refine AfR ?_)
 exact Ax rfl (.cons_ (DD rfl ((decide_eq_false h0).symm)) .nil_)
theorem Abr (k:p') (h:Hd9 p'→p:=by with_reducible first|(intro Z9;refine qq ?_;exact Z9.o)|(intro Z9;refine Tx 0 ?_;refine gO xA ?_;exact Z9.o)|(intro Z9;refine Tx 1 ?_;refine gO xM <| gO xGe <| gO xM ?_;(first|iterate 2 refine Jd ?_|(refine Jy xM1 ?_;refine Jy xLe ?_));refine gO xPk <| gO xA ?_;exact Z9.o)|fail):p:=h ⟨k⟩
theorem LH (k:Int):CV prog Ah 215 [aI k] [aB (inK k)]:=by
 refine cvz func215 ntmps215 ?_
 by_cases cf7:k < -62
 case pos =>
  repeat' (with_reducible first|refine Abr ?_)
  exact Ax rfl (.cons_ (DD rfl ((decide_eq_false (by omega)).symm)) .nil_)
 by_cases cf6:30<k
 case pos =>
  repeat' (with_reducible first|refine Abr ?_)
  exact Ax rfl (.cons_ (DD rfl ((decide_eq_false (by omega)).symm)) .nil_)
 repeat' (with_reducible first|refine Abr ?_)
 exact Ax rfl (.cons_ (DD rfl ((decide_eq_true (by omega)).symm)) .nil_)
theorem MR (n e f:Int):CV prog Ah 216 [.agg [dI n,dI e],.one (.ptr true [dI f])] [aB (rwB n e f)]:=by
 refine cvz func216 ntmps216 ?_
 have RA:=(AmV n e f).cv
 unfold rwB
 by_cases h0:ED n e f=0
 case pos =>
  rw [h0] at RA
  repeat' (with_reducible first|refine qq ?_|(refine Tx 0 ?_;refine gN xBo <| gO xA ?_)|(refine Tx 1 ?_;refine gO xL <| gO xD <| gO (xCl func117 (RA)) <| gO xMt <| gO xEx <| gO xEx <| gO xA <| gO xA ?_)|(refine Tx 2 ?_;refine gO xM <| gO (by first|exact De rfl Al rfl (OP rfl)|exact De rfl Al rfl (OP (by first|rfl|omega))|exact De rfl Al rfl (Si (by first|assumption|omega))|exact De rfl Al rfl rfl) <| gO xA ?_))
  exact Ax rfl (.cons_ (DD rfl ((decide_eq_true h0).symm)) .nil_)
 repeat' (with_reducible first|refine qq ?_|(refine Tx 0 ?_;refine gN xBo <| gO xA ?_)|(refine Tx 1 ?_;refine gO xL <| gO xD <| gO (xCl func117 (RA)) <| gO xMt <| gO xEx <| gO xEx <| gO xA <| gO xA ?_)|(refine Tx 2 ?_;refine gO xM <| gO (by first|exact De rfl Al rfl (Si h0)|exact De rfl Al rfl (OP (by first|rfl|omega))|exact De rfl Al rfl (Si (by first|assumption|omega))|exact De rfl Al rfl rfl) <| gO xA ?_))
 exact Ax rfl (.cons_ (DD rfl ((decide_eq_false h0).symm)) .nil_)
theorem Abs (k:p') (h:Hd9 p'→p:=by with_reducible first|(intro Z9;refine qq ?_;exact Z9.o)|(intro Z9;refine Tx 0 ?_;refine gO xA ?_;exact Z9.o)|(intro Z9;refine Tx 1 ?_;refine gO xF <| gO xD <| gO xM <| gO (xIr Ad (AI hF)) <| gO xD <| gO xLt <| gO xM ?_;(first|iterate 6 refine Jd ?_|(refine Jy (xFa Mq BJ) ?_;refine Jy (xLd BJ) ?_;refine Jy xM1 ?_;refine Jy (xIr Ad (AI hF)) ?_;refine Jy (xLd AE) ?_;refine Jy xGt ?_));refine gO xPk <| gO xA ?_;exact Z9.o)|fail):p:=h ⟨k⟩
theorem Aej (u:Bool) (c:Ct) (a:Int) {k:Nat} (a0:0≤a) (hk:k=a.toNat) (h:k<c.F.length) (hl:c.F.length≤1000000):CV prog Ah 214 [aI a,.one (.ptr true (dCt u c))] [aB (!frB (scA c.F a.toNat))]:=by
 refine cvz func214 ntmps214 ?_
 have hF:=OT h
 obtain rfl:k=a.toNat:=hk
 have ha:((a.toNat:Nat):Int)=a:=by omega
 rw [←ha]
 rw [am]
 generalize a.toNat=j at *
 unfold frB
 generalize scA c.F j=z at *
 by_cases c5:z<0
 case pos =>
  repeat' (with_reducible first|refine Abs ?_)
  exact Ax rfl (.cons_ (DD rfl (by rw [decide_eq_false (by omega)];rfl)) .nil_)
 by_cases c6:30<z
 case pos =>
  repeat' (with_reducible first|refine Abs ?_)
  exact Ax rfl (.cons_ (DD rfl (by rw [decide_eq_false (by omega)];rfl)) .nil_)
 repeat' (with_reducible first|refine Abs ?_)
 exact Ax rfl (.cons_ (DD rfl (by rw [decide_eq_true (by omega)];rfl)) .nil_)
theorem FF (k:p') (h:Hd9 p'→p:=by with_reducible first|(intro Z9;refine Tx 0 ?_;refine gN xBo <| gN xBo <| gO xA ?_;exact Z9.o)|(intro Z9;refine Tx 2 ?_;refine gO xD <| gO xLt <| gO xM ?_;(first|iterate 2 refine Jd ?_|(refine Jy (xLd AE) ?_;refine Jy xGt ?_));refine gO xPk ?_;exact Z9.o)|fail):p:=h ⟨k⟩
theorem Ajd (h:p:=by first|exact xS1 AE|exact xSk AE):p:=h
theorem PQ (k:p') (h:Hd9 p'→p:=by with_reducible first|(intro Z9;refine Tx 1 ?_;refine gO xF <| gO xD <| gO xM <| gO (xIr Ad (AI hFi)) <| gO xD <| gN (xAl CJ) <| gZ Ajd ?_;exact Z9.o)|fail):p:=h ⟨k⟩
theorem GH (k:p') (h:Hd9 p'→p:=by with_reducible first|(intro Z9;refine Tx 4 ?_;refine gO xF <| gO xD <| gO xM <| gO (xIr Ai (Dj hy)) <| gO xL <| gN (xAl Bt) <| gZ (xSk Bi) ?_;exact Z9.o)|fail):p:=h ⟨k⟩
theorem Ht (k:p') (h:Hd9 p'→p:=by with_reducible first|(intro Z9;refine Tx 7 ?_;refine gO (by first|exact AmW rfl|exact Vr rfl rfl) ?_;exact Z9.o)|(intro Z9;refine Tx 8 ?_;refine gO (by first|exact xMf [(2,0,none)]|exact CI rfl (by repeat' first|exact Bh rfl rfl|refine Au rfl rfl rfl ?_)) <| gO xA ?_;exact Z9.o)|(intro Z9;refine Tx 9 ?_;refine gO xF <| gO xD ?_;exact Z9.o)|(intro Z9;refine Tx 10 ?_;refine gO xEq <| gO xA ?_;exact Z9.o)|fail):p:=h ⟨k⟩
theorem Hu (k:p') (h:Hd9 p'→p:=by with_reducible first|(intro Z9;refine Tx 5 ?_;refine gO xF <| gO xD <| gO xNe <| gO xM ?_;(first|iterate 4 refine Jd ?_|(refine Jy (xFa Nt BJ) ?_;refine Jy (xLd BJ) ?_;refine Jy (by first|exact xMf [(1,0,none)]|exact CI rfl (by repeat' first|exact Bh rfl rfl|refine Au rfl rfl rfl ?_)) ?_;refine Jy (by exact AdH QA func213 CTN HC) ?_));refine gO xPk ?_;exact Z9.o)|fail):p:=h ⟨k⟩
theorem Aek (h:p:=by first|exact xIr Ad (AI hFi)|exact xIr Ad (AI hF0)):p:=h
theorem PR (k:p') (h:Hd9 p'→p:=by with_reducible first|(intro Z9;refine Tx 1 ?_;refine gO xF <| gO xD <| gO xM <| gO Aek <| gO xD <| gN (xAl CJ) <| gZ Ajd ?_;exact Z9.o)|fail):p:=h ⟨k⟩
theorem AfS (k:p') (h:Hd9 p'→p:=by with_reducible first|(intro Z9;refine Ca (id:=19) AV (by kernel_rfl) ?_;refine gP xM <| gP xD <| gP xF <| gP xD <| gP xF <| gP xD <| gP (xIr Ad (AI hA0)) <| gP xD <| gP Aek <| gP xD <| gP xSb <| gP (xCc func215 SHC (args:=[_]) rfl) <| gP xM ?_;(first|iterate 4 refine Kd ?_|(refine Ky xM1 ?_;refine Ky (xFa Ex AU) ?_;refine Ky (xLa AU) ?_;refine Ky (xCc func216 (MR y.vn y.ve s) (args:=[_]) rfl) ?_));refine gP xPk <| gP xA ?_;refine Ke ?_;exact Z9.o)|fail):p:=h ⟨k⟩
theorem Abt (k:p') (h:Hd9 p'→p:=by with_reducible first|(intro Z9;refine Ca (id:=21) AV (by kernel_rfl) ?_;refine gP xM <| gP xD <| gP xF <| gP xD <| gP xF <| gP xD <| gP (xIr Ad (AI hA0)) <| gP xD <| gP Aek <| gP xD <| gP xSb <| gP (xCc func215 SHC (args:=[_]) rfl) <| gP xM ?_;(first|iterate 4 refine Kd ?_|(refine Ky xM1 ?_;refine Ky (xFa Ex AU) ?_;refine Ky (xLa AU) ?_;refine Ky (xCc func216 RWC (args:=[_]) rfl) ?_));refine gP xPk <| gP xM ?_;(first|iterate 4 refine Kd ?_|(refine Ky xM1 ?_;refine Ky (xFa Ee AU) ?_;refine Ky (xLa AU) ?_;refine Ky (xCc func216 (MR y.un y.ue s) (args:=[_]) rfl) ?_));refine gP xPk <| gP xA ?_;refine Ke ?_;exact Z9.o)|fail):p:=h ⟨k⟩
theorem AmX (h:p:=by first|exact xIr Ad (AI hz)|exact xIr Ad (AI hFm)):p:=h
theorem AfT (k:p') (h:Hd9 p'→p:=by with_reducible first|(intro Z9;refine Tx 24 ?_;refine gO AmX <| gO xD <| gO xA ?_;exact Z9.o)|(intro Z9;refine Ca (id:=25) AV (by kernel_rfl) ?_;refine gP xM <| gP xD <| gP xF <| gP xD <| gP xM <| gP AmX <| gP xD <| gP xSb <| gP (xCc func215 SHC (args:=[_]) rfl) <| gP XO ?_;refine Ke ?_;exact Z9.o)|fail):p:=h ⟨k⟩
theorem DH (h:p:=by
 exact Ax rfl (.cons_ (DD rfl (rfl)) .nil_)):p:=h
theorem Aje (h:p:=by first|exact xIr Ad (AI hFi)|exact xIr Ad (AI hF0)|exact xIr Ad (AI hF1)):p:=h
theorem UO (t u:Bool) {ps:List Prt} {bs:List Bk} (os:List Int) (c:Ct) (i:Nat) {y:Bk} (hy:bs[i]?=some y) (B:Aco ps bs.length y) (hF:c.F.length=bs.length) (hn:bs.length≤1000000) (hpn:ps.length≤1000000):CV prog Ah 125 [aDg t ps bs os,.agg (dCt u c),aI (i:Int)] [aB (Ef ps c.F y i)]:=by
 refine cvz func125 ntmps125 ?_
 have hil:=(gS.1 hy).1
 have hFi:=OT (F:=c.F) (k:=i) (by omega)
 obtain ⟨s,hs⟩:∃ s,scA c.F i=s:=⟨_,rfl⟩
 rw [hs] at hFi
 have hBl:=B.len
 by_cases c5:s<0
 case pos =>
  have hb:Ef ps c.F y i=false:=by unfold Ef;rw [hs,show frB s=false from decide_eq_false (by omega)];rfl
  rw [hb]
  repeat' (with_reducible first|refine qq ?_|refine FF ?_|refine PQ ?_|(refine Tx 3 ?_;refine gO xA ?_))
  exact DH
 by_cases c6:30<s
 case pos =>
  have hb:Ef ps c.F y i=false:=by unfold Ef;rw [hs,show frB s=false from decide_eq_false (by omega)];rfl
  rw [hb]
  repeat' (with_reducible first|refine qq ?_|refine FF ?_|refine PQ ?_|(refine Tx 3 ?_;refine gO xA ?_))
  exact DH
 have hfr:frB s=true:=decide_eq_true (by omega)
 by_cases k0:y.kind=0
 case pos =>
  obtain ⟨j,p,hA0,ha0,hp,P⟩:=B.port k0
  have f0:=P.f0
  have f1:=P.f1
  have hjl:=(gS.1 hp).1
  have hL0:=(gS.1 hA0).1
  have hb:Ef ps c.F y i=inK (s - p.fr):=by unfold Ef UJ;rw [hs,hfr,decide_eq_true k0,if_pos k0,ha0,UM hp];rfl
  rw [hb]
  repeat' (with_reducible first|refine qq ?_|refine FF ?_|refine PQ ?_|refine GH ?_|(refine Tx 5 ?_;refine gO xF <| gO xD <| gO xNe <| gO xM ?_;(first|iterate 3 refine Jd ?_|(refine Jy (xFa Nt BJ) ?_;refine Jy (xLd BJ) ?_;refine Jy (by exact CI rfl (by repeat' first|exact Bh rfl rfl|refine Au rfl rfl rfl ?_)) ?_));refine Jd ?_;refine gO xPk ?_)|refine Ht ?_|(refine Ca (id:=11) AV (by kernel_rfl) ?_;refine gP xM <| gP xD <| gP xF <| gP xD <| gP xF <| gP xD <| gP (xIr Ad (AI hA0)) <| gP xD <| gP (xIr Di (NJ hp)) <| gP xF <| gP xD <| gP xSb <| gP (xCc func215 (LH (s - p.fr)) (args:=[_]) rfl) <| gP xA ?_;refine Ke ?_))
  exact DH
 have HC:∀ a∈y.args,CV prog Ah 214 [aI a,.one (.ptr true (dCt u c))] [aB ((fun a:Int=>!frB (scA c.F a.toNat)) a)]:=fun a ha=>by have h1:=B.all k0 a ha;exact Aej u c a h1.1 rfl (by omega) (by omega)
 have CTN:∀ vs,CV prog (Afr prog 214 vs (fun a:Int=>!frB (scA c.F a.toNat)) y.args) 213 [.one (Bd t y.args),.one (.val (.func (.func 214) #[] vs.toArray))] [aB (y.args.any (fun a:Int=>!frB (scA c.F a.toNat)))]:=fun vs=>Uz func214 (by kernel_rfl) rfl t vs _ y.args (by omega)
 have hna:y.args.any (fun a:Int=>!frB (scA c.F a.toNat))=!y.args.all (fun a=>frB (sG c.F a)):=(List.not_all_eq_any_not ..).symm
 by_cases hall:y.args.all (fun a=>frB (sG c.F a))=true
 case neg =>
  rw [aw] at hall
  rw [hall] at hna
  simp only [hna,dt] at CTN
  have hb:Ef ps c.F y i=false:=by unfold Ef;rw [hs,hfr,hall,decide_eq_false k0];rfl
  rw [hb]
  repeat' (with_reducible first|refine qq ?_|refine FF ?_|refine PQ ?_|refine GH ?_|refine Hu ?_|(refine Tx 6 ?_;refine gO xA ?_))
  exact DH
 rw [hall] at hna
 simp only [hna,dr] at CTN
 have hb:Ef ps c.F y i=UJ ps c.F y s:=by unfold Ef;rw [hs,hfr,hall];simp
 rw [hb]
 have hall:∀ a∈y.args,0≤sG c.F a∧sG c.F a≤30:=fun a ha=>of_decide_eq_true (List.all_eq_true.1 hall a ha)
 clear hb hna
 by_cases k1:y.kind=1
 case pos =>
  rw [show UJ ps c.F y s=rwB y.vn y.ve s by unfold UJ;rw [if_neg k0,if_pos k1]]
  repeat' (with_reducible first|refine qq ?_|refine FF ?_|refine PQ ?_|refine GH ?_|refine Hu ?_|refine Ht ?_|(refine Tx 12 ?_;refine gO xEq <| gO xA ?_)|(refine Tx 13 ?_;refine gO xM <| gO xF <| gO xL <| gO (xCc func216 (MR y.vn y.ve s) (args:=[_]) rfl) <| gO xA ?_))
  exact DH
 by_cases k6:y.kind=6
 case pos =>
  obtain ⟨a,hA0,ha0,hl0⟩:=B.a0 (by omega)
  have hL0:=(gS.1 hA0).1
  have hl0:=hl0 k0
  have hF0:=OT (F:=c.F) (k:=a) (by omega)
  have hr0:=hall a (gM hA0)
  obtain ⟨r0,hq0⟩:∃ r,scA c.F a=r:=⟨_,rfl⟩
  rw [show sG c.F ((a:Nat):Int)=r0 by unfold sG;rw [am];exact hq0] at hr0
  rw [hq0] at hF0
  have hg0:sG c.F (Cp y)=r0:=by rw [ha0];unfold sG;rw [am];exact hq0
  have hv:=B.sv (by omega)
  unfold DE at hv
  rw [show UJ ps c.F y s=inK (s - r0+y.ve) by unfold UJ;rw [if_neg k0,if_neg k1,if_pos k6,hg0]]
  repeat' (with_reducible first|refine qq ?_|refine FF ?_|refine PR ?_|refine GH ?_|refine Hu ?_|refine Ht ?_|(refine Tx 12 ?_;refine gO xEq <| gO xA ?_)|(refine Tx 14 ?_;refine gO xEq <| gO xA ?_)|(refine Ca (id:=15) AV (by kernel_rfl) ?_;refine gP xM <| gP xD <| gP xF <| gP xD <| gP xF <| gP xD <| gP (xIr Ad (AI hA0)) <| gP xD <| gP Aek <| gP xD <| gP xSb <| gP xF <| gP xF <| gP xD <| gP xAd <| gP (xCc func215 (LH (s - r0+y.ve)) (args:=[_]) rfl) <| gP xA ?_;refine Ke ?_))
  exact DH
 by_cases k7:y.kind=7
 case pos =>
  obtain ⟨a,hA0,ha0,hl0⟩:=B.a0 (by omega)
  have hL0:=(gS.1 hA0).1
  have hl0:=hl0 k0
  have hF0:=OT (F:=c.F) (k:=a) (by omega)
  have hr0:=hall a (gM hA0)
  obtain ⟨r0,hq0⟩:∃ r,scA c.F a=r:=⟨_,rfl⟩
  rw [show sG c.F ((a:Nat):Int)=r0 by unfold sG;rw [am];exact hq0] at hr0
  rw [hq0] at hF0
  have hg0:sG c.F (Cp y)=r0:=by rw [ha0];unfold sG;rw [am];exact hq0
  obtain ⟨b,hA1,ha1,hl1⟩:=B.a1 (by omega)
  have hL1:=(gS.1 hA1).1
  have hF1:=OT (F:=c.F) (k:=b) (by omega)
  have hr1:=hall b (gM hA1)
  obtain ⟨r1,hq1⟩:∃ r,scA c.F b=r:=⟨_,rfl⟩
  rw [show sG c.F ((b:Nat):Int)=r1 by unfold sG;rw [am];exact hq1] at hr1
  rw [hq1] at hF1
  have hg1:sG c.F (EN y)=r1:=by rw [ha1];unfold sG;rw [am];exact hq1
  rw [show UJ ps c.F y s=inK (s - r0 - r1) by unfold UJ;rw [if_neg k0,if_neg k1,if_neg k6,if_pos k7,hg0,hg1]]
  repeat' (with_reducible first|refine qq ?_|refine FF ?_|(refine Tx 1 ?_;refine gO xF <| gO xD <| gO xM <| gO Aje <| gO xD <| gN (xAl CJ) <| gZ Ajd ?_)|refine GH ?_|refine Hu ?_|refine Ht ?_|(refine Tx 12 ?_;refine gO xEq <| gO xA ?_)|(refine Tx 14 ?_;refine gO xEq <| gO xA ?_)|(refine Tx 16 ?_;refine gO xEq <| gO xA ?_)|(refine Ca (id:=17) AV (by kernel_rfl) ?_;refine gP xM <| gP xD <| gP xF <| gP xD <| gP xF <| gP xD <| gP (xIr Ad (AI hA0)) <| gP xD <| gP Aje <| gP xD <| gP xSb <| gP xF <| gP xD <| gP xF <| gP xD <| gP (xIr Ad (AI hA1)) <| gP xD <| gP Aje <| gP xD <| gP xSb <| gP (xCc func215 (LH (s - r0 - r1)) (args:=[_]) rfl) <| gP xA ?_;refine Ke ?_))
  exact DH
 by_cases k2:y.kind=2
 case pos =>
  obtain ⟨a,hA0,ha0,hl0⟩:=B.a0 (by omega)
  have hL0:=(gS.1 hA0).1
  have hl0:=hl0 k0
  have hF0:=OT (F:=c.F) (k:=a) (by omega)
  have hr0:=hall a (gM hA0)
  obtain ⟨r0,hq0⟩:∃ r,scA c.F a=r:=⟨_,rfl⟩
  rw [show sG c.F ((a:Nat):Int)=r0 by unfold sG;rw [am];exact hq0] at hr0
  rw [hq0] at hF0
  have hg0:sG c.F (Cp y)=r0:=by rw [ha0];unfold sG;rw [am];exact hq0
  rw [show UJ ps c.F y s=(inK (s - r0) && rwB y.vn y.ve s) by unfold UJ;rw [if_neg k0,if_neg k1,if_neg k6,if_neg k7,if_pos k2,hg0]]
  have SHC:=LH (s - r0)
  cases hq:inK (s - r0)
  case false =>
   rw [hq] at SHC
   repeat' (with_reducible first|refine qq ?_|refine FF ?_|refine PR ?_|refine GH ?_|refine Hu ?_|refine Ht ?_|(refine Tx 12 ?_;refine gO xEq <| gO xA ?_)|(refine Tx 14 ?_;refine gO xEq <| gO xA ?_)|(refine Tx 16 ?_;refine gO xEq <| gO xA ?_)|(refine Tx 18 ?_;refine gO xEq <| gO xA ?_)|refine AfS ?_)
   exact Ax rfl (.cons_ (DD rfl (by rw [fw])) .nil_)
  case true =>
   rw [hq] at SHC
   repeat' (with_reducible first|refine qq ?_|refine FF ?_|refine PR ?_|refine GH ?_|refine Hu ?_|refine Ht ?_|(refine Tx 12 ?_;refine gO xEq <| gO xA ?_)|(refine Tx 14 ?_;refine gO xEq <| gO xA ?_)|(refine Tx 16 ?_;refine gO xEq <| gO xA ?_)|(refine Tx 18 ?_;refine gO xEq <| gO xA ?_)|refine AfS ?_)
   exact Ax rfl (.cons_ (DD rfl (by rw [em])) .nil_)
 by_cases k11:y.kind=11
 case pos =>
  obtain ⟨a,hA0,ha0,hl0⟩:=B.a0 (by omega)
  have hL0:=(gS.1 hA0).1
  have hl0:=hl0 k0
  have hF0:=OT (F:=c.F) (k:=a) (by omega)
  have hr0:=hall a (gM hA0)
  obtain ⟨r0,hq0⟩:∃ r,scA c.F a=r:=⟨_,rfl⟩
  rw [show sG c.F ((a:Nat):Int)=r0 by unfold sG;rw [am];exact hq0] at hr0
  rw [hq0] at hF0
  have hg0:sG c.F (Cp y)=r0:=by rw [ha0];unfold sG;rw [am];exact hq0
  rw [show UJ ps c.F y s=(inK (s - r0) && rwB y.vn y.ve s && rwB y.un y.ue s) by unfold UJ;rw [if_neg k0,if_neg k1,if_neg k6,if_neg k7,if_neg k2,if_pos k11,hg0]]
  have SHC:=LH (s - r0)
  have RWC:=MR y.vn y.ve s
  cases hq:inK (s - r0)
  case false =>
   rw [hq] at SHC
   repeat' (with_reducible first|refine qq ?_|refine FF ?_|refine PR ?_|refine GH ?_|refine Hu ?_|refine Ht ?_|(refine Tx 12 ?_;refine gO xEq <| gO xA ?_)|(refine Tx 14 ?_;refine gO xEq <| gO xA ?_)|(refine Tx 16 ?_;refine gO xEq <| gO xA ?_)|(refine Tx 18 ?_;refine gO xEq <| gO xA ?_)|(refine Tx 20 ?_;refine gO xEq <| gO xA ?_)|refine Abt ?_)
   exact Ax rfl (.cons_ (DD rfl (by rw [fw,fw])) .nil_)
  case true =>
   rw [hq] at SHC
   cases hq2:rwB y.vn y.ve s
   case false =>
    rw [hq2] at RWC
    repeat' (with_reducible first|refine qq ?_|refine FF ?_|refine PR ?_|refine GH ?_|refine Hu ?_|refine Ht ?_|(refine Tx 12 ?_;refine gO xEq <| gO xA ?_)|(refine Tx 14 ?_;refine gO xEq <| gO xA ?_)|(refine Tx 16 ?_;refine gO xEq <| gO xA ?_)|(refine Tx 18 ?_;refine gO xEq <| gO xA ?_)|(refine Tx 20 ?_;refine gO xEq <| gO xA ?_)|refine Abt ?_)
    exact Ax rfl (.cons_ (DD rfl (by rw [em,fw])) .nil_)
   case true =>
    rw [hq2] at RWC
    repeat' (with_reducible first|refine qq ?_|refine FF ?_|refine PR ?_|refine GH ?_|refine Hu ?_|refine Ht ?_|(refine Tx 12 ?_;refine gO xEq <| gO xA ?_)|(refine Tx 14 ?_;refine gO xEq <| gO xA ?_)|(refine Tx 16 ?_;refine gO xEq <| gO xA ?_)|(refine Tx 18 ?_;refine gO xEq <| gO xA ?_)|(refine Tx 20 ?_;refine gO xEq <| gO xA ?_)|refine Abt ?_)
    exact Ax rfl (.cons_ (DD rfl (by rw [em,em])) .nil_)
 have hb:UJ ps c.F y s=y.args.all fun a=>inK (s - sG c.F a):=by unfold UJ;rw [if_neg k0,if_neg k1,if_neg k6,if_neg k7,if_neg k2,if_neg k11]
 rw [hb]
 repeat' (with_reducible first|refine qq ?_|refine FF ?_|refine PQ ?_|refine GH ?_|refine Hu ?_|refine Ht ?_|(refine Tx 12 ?_;refine gO xEq <| gO xA ?_)|(refine Tx 14 ?_;refine gO xEq <| gO xA ?_)|(refine Tx 16 ?_;refine gO xEq <| gO xA ?_)|(refine Tx 18 ?_;refine gO xEq <| gO xA ?_)|(refine Tx 20 ?_;refine gO xEq <| gO xA ?_)|(refine Tx 22 ?_;refine gO xF <| gO xD <| gO xN <| gO xM ?_))
 refine AQ (Bu 3) (Aq (fun n Fr H=>∃ k:Nat,k≤y.args.length∧n=y.args.length - k∧(y.args.take k).all (fun a=>inK (s - sG c.F a))=true∧Fr=ofL [(4,vr 1),(7,vr 2),(9,.one (.clo (.func 215) [])),(150,vd (Bd t y.args)),(151,vi y.args.length),(152,vi ((k:Nat)))]∧H=[.box 26 [.d (DJ t ps),.d (Dc t bs),.d (Bd t os)],.box 30 [.d (Bd u c.F),.d (.row false 6 c.R.length (Av (dIw false) c.R)),.d (.row false 3 c.E.length (Av dyP c.E))],.box 3 [.d (.val (.int .i64 s))]]) (n0:=y.args.length) ⟨0,ad _,rfl,rfl,rfl,rfl⟩ ?_)
 clear HC CTN
 rintro n Fr H ⟨k,hk,rfl,hal,rfl,rfl⟩
 by_cases hlt:k<y.args.length
 case pos =>
  obtain ⟨z,hz⟩:∃ z,y.args[k]?=some z:=⟨_,gE hlt⟩
  have hzm:=gM hz
  have hzb:=B.all k0 z hzm
  have hzr:=hall z hzm
  obtain ⟨m,rfl⟩:∃ m:Nat,z=(m:Int):=⟨z.toNat,by omega⟩
  have hFm:=OT (F:=c.F) (k:=m) (by omega)
  rw [show sG c.F ((m:Nat):Int)=scA c.F m by unfold sG;rw [am]] at hzr
  have SHC:=LH (s - scA c.F m)
  cases hq:inK (s - scA c.F m)
  case false =>
   rw [hq] at SHC
   repeat' (with_reducible first|refine qq ?_|(refine Tx 23 ?_;refine gO xLt ?_)|refine AfT ?_|(refine Tx 26 ?_;refine gO xA ?_))
   exact Ax rfl (.cons_ (DD rfl ((AfP (p:=fun a=>inK (s - sG c.F a)) hz hq).symm)) .nil_)
  rw [hq] at SHC
  repeat' (with_reducible first|refine qq ?_|(refine Tx 23 ?_;refine gO xLt ?_)|refine AfT ?_|(refine Tx 27 ?_;refine gO xAd <| gO xM ?_))
  refine ⟨_,_,Bu 3,_,by omega,k+1,by omega,rfl,VQ (p:=fun a=>inK (s - sG c.F a)) hz hal hq,rfl,rfl⟩
 obtain rfl:k=y.args.length:=by omega
 rw [bc] at hal
 repeat' (with_reducible first|refine qq ?_|(refine Tx 23 ?_;refine gO xLt ?_)|(refine Tx 28 ?_;refine gO xA ?_))
 exact Ax rfl (.cons_ (DD rfl (hal.symm)) .nil_)
theorem XS {k:Nat} (h:k<E.length):((Av dyP E).drop (k*3)).take 3=dyP (E[k]?.getD (0,0)):=Aio (eg_c h)
theorem Abu {k:Nat} (h:k<R.length):((Av (dIw false) R).drop (k*6)).take 6=dIw false (R[k]?.getD iZ):=Im (TD h)
theorem OB (R:List Iq) (k:Nat):rG R (k:Int)=R[k]?.getD iZ:=by unfold rG;rw [am]
theorem GI (E:List Pq) (k:Nat):eG E (k:Int)=E[k]?.getD (0,0):=by unfold eG;rw [am]
theorem EK (F:List Int) (k:Nat):sG F (k:Int)=scA F k:=by unfold sG;rw [am]
theorem zdy:([.val (.bool false),.row false 1 0 [],.val (.int .i64 0)]:List D)=dDy false 0 0:=(A.agg.inj Gy).symm
theorem BX (t u:Bool) (c:Ct) (y:Bk) (k:Nat) {r:Nat} (hk:y.args[k]?=some (r:Int)) (hr:r<c.R.length) (ha:y.args.length≤1000000) (hv:c.R.length≤1000000):CV prog Ah 217 [aI (k:Int),.one (.ptr true (dCt u c)),.one (.ptr true (dBk t y))] [aIw false (c.R[r]?.getD iZ)]:=by
 refine cvz func217 ntmps217 ?_
 have l1:=(gS.1 hk).1
 repeat' (with_reducible first|refine qq ?_|(refine Tx 0 ?_;refine gN (xAl Ak) ?_)|(refine AG (id:=1) 9 AV (by kernel_rfl) ?_;dsimp only [List.take,List.drop];refine gP xF <| gP xD <| gP xF <| gP xD <| gP xM <| gP (by first|exact xIr Ad (AI hk)|exact xIr Ad (Abu hr)) <| gP xD <| gP (xIr Ag (Abu hr)) <| gP xL ?_;refine Ke ?_;refine gZ (xSk Ac) ?_))
 exact FD
theorem Ge (k:p') (h:Hd9 p'→p:=by with_reducible first|(intro Z9;refine qq ?_;exact Z9.o)|(intro Z9;refine Tx 0 ?_;refine gN xBo <| gN xBo <| gO xA ?_;exact Z9.o)|(intro Z9;refine Tx 1 ?_;refine gO xF <| gO xD <| gO xM <| gO (by first|exact xIr Ai (Dj hy)|exact xIr Ai (hwi)) <| gO xL <| gN (xAl Bt) <| gZ (xSk Bi) ?_;exact Z9.o)|(intro Z9;refine Tx 2 ?_;refine gO (by first|exact xMf [(1,0,none),(2,0,none)]|exact CI rfl (by repeat' first|exact Bh rfl rfl|refine Au rfl rfl rfl ?_)) <| gO xA ?_;exact Z9.o)|(intro Z9;refine Tx 3 ?_;refine gN (xAl Ak) ?_;exact Z9.o)|(intro Z9;refine Tx 4 ?_;refine gO xF <| gO xD ?_;exact Z9.o)|(intro Z9;refine Tx 6 ?_;refine gO xEq <| gO xA ?_;exact Z9.o)|(intro Z9;refine Ca (id:=29) AV (by kernel_rfl) ?_;refine gP xL <| gP xF <| gP xD <| gP xM <| gP (xIr Ag (hwi)) <| gP xL <| gP (xCl func151 (IS)) <| gP xA ?_;refine Ke ?_;exact Z9.o)|fail):p:=h ⟨k⟩
theorem GJ (k:p') (h:Hd9 p'→p:=by with_reducible first|(intro Z9;refine Tx 9 ?_;refine gO xEq <| gO xA ?_;exact Z9.o)|fail):p:=h ⟨k⟩
theorem Hv (k:p') (h:Hd9 p'→p:=by with_reducible first|(intro Z9;refine Tx 11 ?_;refine gO xEq <| gO xA ?_;exact Z9.o)|fail):p:=h ⟨k⟩
theorem Hw (h:p:=by
 exact this.more (by decide) (by decide)):p:=h
theorem AmY (h:p:=by first|exact xCl func219 (RV)|exact xCl func219 (RU)):p:=h
theorem UQ (t u:Bool) {ps:List Prt} {bs:List Bk} (os:List Int) (c:Ct) (i:Nat) {y:Bk} (hy:bs[i]?=some y) (B:Aco ps bs.length y) (hR:c.R.length=bs.length) (sR:∀ p∈c.R,IwS p LB LB) (hn:bs.length≤1000000) (hpn:ps.length≤1000000):CV prog Ah 126 [aDg t ps bs os,.agg (dCt u c),aI (i:Int)] [aB (CS ps c.R y i)]:=by
 refine cvz func126 ntmps126 ?_
 have hil:=(gS.1 hy).1
 have hBl:=B.len
 have wi:=(Bx sR i).more LBx LBx
 have hwi:=Abu (R:=c.R) (k:=i) (by omega)
 rcases B.hk with h|h|h|h|h|h|h|h|h|h|h|h
 ·
  obtain ⟨j,pp,hA0,ha0,hp,PS⟩:=B.port h
  have l3:=(gS.1 hp).1
  have hL0:=(gS.1 hA0).1
  have f0:=PS.l0
  have f1:=PS.le
  have f2:=PS.h1
  have f3:=PS.f0
  have f4:=PS.f1
  have IN:=ST pp.lo pp.hi (by omega) (by omega)
  have UN:=OA pp.fr (by omega) (by omega)
  have SC:=Hc (CC [(pp.lo,0),(pp.hi,0)]) (pw (-pp.fr)) (Fz (Il pp.lo (by omega) (by decide)) (Il pp.hi (by omega) (by decide))).2.2 ((Tm f3 f4).more (by decide) (by decide))
  rw [show LV (CC [(pp.lo,0),(pp.hi,0)]) (pw (-pp.fr))=Ou pp from PS.scale] at SC
  have hb:Mi ps c.R y=Ou pp:=by unfold Mi Bv;rw [if_neg (by omega),if_pos h,hA0];simp [hp]
  have ws:IwS (Ou pp) 20000 20000:=PS.iw.more (by decide) (by decide)
  unfold CS
  rw [hb]
  have IS:=BQ _ _ ws wi
  repeat' (with_reducible first|refine Ge ?_|(refine AG (id:=7) 9 AV (by kernel_rfl) ?_;dsimp only [List.take,List.drop];refine gP xF <| gP xD <| gP xF <| gP xD <| gP (by first|exact xIr Ad (hwi)|exact xIr Ad (AI hA0)) <| gP xD <| gP (by first|exact xIr Di (hwi)|exact xIr Di (NJ hp)) <| gP xL <| gQ (xAl Nu) ?_;refine Ke ?_;refine gZ (xSk Ic) ?_)|(refine AG (id:=8) 9 AV (by kernel_rfl) ?_;dsimp only [List.take,List.drop];refine gP xF <| gP xD <| gP xF <| gP xD <| gP (xCl func139 (IN)) <| gP xF <| gP xD <| gP (xCl func218 (UN)) <| gP (xCl func138 (SC)) ?_;refine Ke ?_;refine gZ (xSk Ac) ?_))
  exact DH
 ·
  have hv:=B.sv (by omega)
  have RV:=FZ y.vn y.ve hv
  have sv:=(FB hv).more LBx LBx
  have PT:=Dr (Ae y.vn 0 y.ve) sv.ok sv.lz
  have hb:Mi ps c.R y=((Ae y.vn 0 y.ve),(Ae y.vn 0 y.ve)):=by unfold Mi Bv Fg;simp [h]
  have ws:IwS (((Ae y.vn 0 y.ve),(Ae y.vn 0 y.ve))) 20000 20000:=by
   have:=GE (y:=y) (Eb (y:=y) sR) (fun h2=>B.sv (by omega)) (fun h2=>B.su h2) (by omega)
   rw [show Fg y (Dv c.R y)=((Ae y.vn 0 y.ve),(Ae y.vn 0 y.ve)) by unfold Fg;simp [h]] at this
   exact Hw
  unfold CS
  rw [hb]
  have IS:=BQ _ _ ws wi
  repeat' (with_reducible first|refine Ge ?_|refine GJ ?_|(refine Tx 10 ?_;refine gO xF <| gO xL <| gO (xCl func219 (RV)) <| gO (xCl func140 (PT)) <| gZ (xSk Ac) ?_))
  exact DH
 ·
  obtain ⟨a,hA0,ha0,hl0⟩:=B.a0 (by omega)
  have hl0:=hl0 (by omega)
  have hL0:=(gS.1 hA0).1
  obtain ⟨P,hP⟩:∃ P,c.R[a]?.getD iZ=P:=⟨_,rfl⟩
  have sp:=(Bx sR a).more LBx LBx
  have A0:=BX t u c y 0 hA0 (by omega) (by omega) (by omega)
  have hj0:(Dv c.R y)[0]?=some P:=Cv (by omega) hA0 (by rw [am,←hP];exact TD (by omega))
  rw [hP] at sp A0
  have hv:=B.sv (by omega)
  have RV:=FZ y.vn y.ve hv
  have sv:=(FB hv).more LBx LBx
  have PT:=Dr (Ae y.vn 0 y.ve) sv.ok sv.lz
  have C:=Oq ((Ae y.vn 0 y.ve),(Ae y.vn 0 y.ve)) P (.pt sv) sp
  have hb:Mi ps c.R y=Ik ((Ae y.vn 0 y.ve),(Ae y.vn 0 y.ve)) P:=by unfold Mi;rw [if_pos h,ha0,OB,hP]
  have ws:IwS (Ik ((Ae y.vn 0 y.ve),(Ae y.vn 0 y.ve)) P) 20000 20000:=(IwS.pt (FB hv)).hull (hP ▸ Bx sR a) |>.more LBx LBx
  unfold CS
  rw [hb]
  have IS:=BQ _ _ ws wi
  repeat' (with_reducible first|refine Ge ?_|refine GJ ?_|refine Hv ?_|(refine Tx 12 ?_;refine gO xF <| gO xL <| gO (xCl func219 (RV)) <| gO (xCl func140 (PT)) <| gO xM <| gO (xCc func217 A0 (args:=[_]) rfl) <| gO (xCl func142 (C)) <| gZ (xSk Ac) ?_))
  exact DH
 ·
  obtain ⟨a,hA0,ha0,hl0⟩:=B.a0 (by omega)
  have hl0:=hl0 (by omega)
  have hL0:=(gS.1 hA0).1
  obtain ⟨P,hP⟩:∃ P,c.R[a]?.getD iZ=P:=⟨_,rfl⟩
  have sp:=(Bx sR a).more LBx LBx
  have A0:=BX t u c y 0 hA0 (by omega) (by omega) (by omega)
  have hj0:(Dv c.R y)[0]?=some P:=Cv (by omega) hA0 (by rw [am,←hP];exact TD (by omega))
  rw [hP] at sp A0
  obtain ⟨b,hA1,ha1,hl1⟩:=B.a1 (by omega)
  have hL1:=(gS.1 hA1).1
  obtain ⟨Q,hQ⟩:∃ Q,c.R[b]?.getD iZ=Q:=⟨_,rfl⟩
  have sq:=(Bx sR b).more LBx LBx
  have A1:=BX t u c y 1 hA1 (by omega) (by omega) (by omega)
  have hj1:(Dv c.R y)[1]?=some Q:=Cv (by omega) hA1 (by rw [am,←hQ];exact TD (by omega))
  rw [hQ] at sq A1
  have C:=Rb P Q sp sq
  have hb:Mi ps c.R y=Afs P Q:=by unfold Mi Bv Fg;simp [h,hj0,hj1]
  have ws:IwS (Afs P Q) 20000 20000:=by
   have:=GE (y:=y) (Eb (y:=y) sR) (fun h2=>B.sv (by omega)) (fun h2=>B.su h2) (by omega)
   rw [show Fg y (Dv c.R y)=Afs P Q by unfold Fg;simp [h,hj0,hj1]] at this
   exact Hw
  unfold CS
  rw [hb]
  have IS:=BQ _ _ ws wi
  repeat' (with_reducible first|refine Ge ?_|refine GJ ?_|refine Hv ?_|(refine Tx 13 ?_;refine gO xEq <| gO xA ?_)|(refine Tx 14 ?_;refine gO xM <| gO (xCc func217 A0 (args:=[_]) rfl) <| gO xM <| gO (xCc func217 A1 (args:=[_]) rfl) <| gO (xCl func143 (C)) <| gZ (xSk Ac) ?_))
  exact DH
 ·
  obtain ⟨a,hA0,ha0,hl0⟩:=B.a0 (by omega)
  have hl0:=hl0 (by omega)
  have hL0:=(gS.1 hA0).1
  obtain ⟨P,hP⟩:∃ P,c.R[a]?.getD iZ=P:=⟨_,rfl⟩
  have sp:=(Bx sR a).more LBx LBx
  have A0:=BX t u c y 0 hA0 (by omega) (by omega) (by omega)
  have hj0:(Dv c.R y)[0]?=some P:=Cv (by omega) hA0 (by rw [am,←hP];exact TD (by omega))
  rw [hP] at sp A0
  obtain ⟨b,hA1,ha1,hl1⟩:=B.a1 (by omega)
  have hL1:=(gS.1 hA1).1
  obtain ⟨Q,hQ⟩:∃ Q,c.R[b]?.getD iZ=Q:=⟨_,rfl⟩
  have sq:=(Bx sR b).more LBx LBx
  have A1:=BX t u c y 1 hA1 (by omega) (by omega) (by omega)
  have hj1:(Dv c.R y)[1]?=some Q:=Cv (by omega) hA1 (by rw [am,←hQ];exact TD (by omega))
  rw [hQ] at sq A1
  have C:=Wi P Q sp sq
  have hb:Mi ps c.R y=AiF P Q:=by unfold Mi Bv Fg;simp [h,hj0,hj1]
  have ws:IwS (AiF P Q) 20000 20000:=by
   have:=GE (y:=y) (Eb (y:=y) sR) (fun h2=>B.sv (by omega)) (fun h2=>B.su h2) (by omega)
   rw [show Fg y (Dv c.R y)=AiF P Q by unfold Fg;simp [h,hj0,hj1]] at this
   exact Hw
  unfold CS
  rw [hb]
  have IS:=BQ _ _ ws wi
  repeat' (with_reducible first|refine Ge ?_|refine GJ ?_|refine Hv ?_|(refine Tx 13 ?_;refine gO xEq <| gO xA ?_)|(refine Tx 15 ?_;refine gO xEq <| gO xA ?_)|(refine Tx 16 ?_;refine gO xM <| gO (xCc func217 A0 (args:=[_]) rfl) <| gO xM <| gO (xCc func217 A1 (args:=[_]) rfl) <| gO (xCl func144 (C)) <| gZ (xSk Ac) ?_))
  exact DH
 ·
  obtain ⟨a,hA0,ha0,hl0⟩:=B.a0 (by omega)
  have hl0:=hl0 (by omega)
  have hL0:=(gS.1 hA0).1
  obtain ⟨P,hP⟩:∃ P,c.R[a]?.getD iZ=P:=⟨_,rfl⟩
  have sp:=(Bx sR a).more LBx LBx
  have A0:=BX t u c y 0 hA0 (by omega) (by omega) (by omega)
  have hj0:(Dv c.R y)[0]?=some P:=Cv (by omega) hA0 (by rw [am,←hP];exact TD (by omega))
  rw [hP] at sp A0
  have C:=Ra P sp
  have hb:Mi ps c.R y=AdK P:=by unfold Mi Bv Fg;simp [h,hj0]
  have ws:IwS (AdK P) 20000 20000:=by
   have:=GE (y:=y) (Eb (y:=y) sR) (fun h2=>B.sv (by omega)) (fun h2=>B.su h2) (by omega)
   rw [show Fg y (Dv c.R y)=AdK P by unfold Fg;simp [h,hj0]] at this
   exact Hw
  unfold CS
  rw [hb]
  have IS:=BQ _ _ ws wi
  repeat' (with_reducible first|refine Ge ?_|refine GJ ?_|refine Hv ?_|(refine Tx 13 ?_;refine gO xEq <| gO xA ?_)|(refine Tx 15 ?_;refine gO xEq <| gO xA ?_)|(refine Tx 17 ?_;refine gO xEq <| gO xA ?_)|(refine Tx 19 ?_;refine gO xEq <| gO xA ?_)|(refine Tx 20 ?_;refine gO xM <| gO (xCc func217 A0 (args:=[_]) rfl) <| gO (xCl func146 (C)) <| gZ (xSk Ac) ?_))
  exact DH
 ·
  obtain ⟨a,hA0,ha0,hl0⟩:=B.a0 (by omega)
  have hl0:=hl0 (by omega)
  have hL0:=(gS.1 hA0).1
  obtain ⟨P,hP⟩:∃ P,c.R[a]?.getD iZ=P:=⟨_,rfl⟩
  have sp:=(Bx sR a).more LBx LBx
  have A0:=BX t u c y 0 hA0 (by omega) (by omega) (by omega)
  have hj0:(Dv c.R y)[0]?=some P:=Cv (by omega) hA0 (by rw [am,←hP];exact TD (by omega))
  rw [hP] at sp A0
  have hv:=B.sv (by omega)
  have RV:=FZ y.vn y.ve hv
  have sv:=(FB hv).more LBx LBx
  have C:=Hc P (Ae y.vn 0 y.ve) sp sv
  have hb:Mi ps c.R y=LV P (Ae y.vn 0 y.ve):=by unfold Mi Bv Fg;simp [h,hj0]
  have ws:IwS (LV P (Ae y.vn 0 y.ve)) 20000 20000:=by
   have:=GE (y:=y) (Eb (y:=y) sR) (fun h2=>B.sv (by omega)) (fun h2=>B.su h2) (by omega)
   rw [show Fg y (Dv c.R y)=LV P (Ae y.vn 0 y.ve) by unfold Fg;simp [h,hj0]] at this
   exact Hw
  unfold CS
  rw [hb]
  have IS:=BQ _ _ ws wi
  repeat' (with_reducible first|refine Ge ?_|refine GJ ?_|refine Hv ?_|(refine Tx 13 ?_;refine gO xEq <| gO xA ?_)|(refine Tx 15 ?_;refine gO xEq <| gO xA ?_)|(refine Tx 17 ?_;refine gO xEq <| gO xA ?_)|(refine Tx 19 ?_;refine gO xEq <| gO xA ?_)|(refine Tx 21 ?_;refine gO xEq <| gO xA ?_)|(refine Tx 23 ?_;refine gO xEq <| gO xA ?_)|(refine AG (id:=24) 6 AV (by kernel_rfl) ?_;dsimp only [List.take,List.drop];refine gP xM <| gP (xCc func217 A0 (args:=[_]) rfl) <| gP xF <| gP xL <| gP (xCl func219 (RV)) <| gP (xCl func138 (C)) ?_;refine Ke ?_;refine gZ (xSk Ac) ?_))
  exact DH
 ·
  obtain ⟨a,hA0,ha0,hl0⟩:=B.a0 (by omega)
  have hl0:=hl0 (by omega)
  have hL0:=(gS.1 hA0).1
  obtain ⟨P,hP⟩:∃ P,c.R[a]?.getD iZ=P:=⟨_,rfl⟩
  have sp:=(Bx sR a).more LBx LBx
  have A0:=BX t u c y 0 hA0 (by omega) (by omega) (by omega)
  have hj0:(Dv c.R y)[0]?=some P:=Cv (by omega) hA0 (by rw [am,←hP];exact TD (by omega))
  rw [hP] at sp A0
  obtain ⟨b,hA1,ha1,hl1⟩:=B.a1 (by omega)
  have hL1:=(gS.1 hA1).1
  obtain ⟨Q,hQ⟩:∃ Q,c.R[b]?.getD iZ=Q:=⟨_,rfl⟩
  have sq:=(Bx sR b).more LBx LBx
  have A1:=BX t u c y 1 hA1 (by omega) (by omega) (by omega)
  have hj1:(Dv c.R y)[1]?=some Q:=Cv (by omega) hA1 (by rw [am,←hQ];exact TD (by omega))
  rw [hQ] at sq A1
  have C:=Re P Q sp sq
  have hb:Mi ps c.R y=Aft P Q:=by unfold Mi Bv Fg;simp [h,hj0,hj1]
  have ws:IwS (Aft P Q) 20000 20000:=by
   have:=GE (y:=y) (Eb (y:=y) sR) (fun h2=>B.sv (by omega)) (fun h2=>B.su h2) (by omega)
   rw [show Fg y (Dv c.R y)=Aft P Q by unfold Fg;simp [h,hj0,hj1]] at this
   exact Hw
  unfold CS
  rw [hb]
  have IS:=BQ _ _ ws wi
  repeat' (with_reducible first|refine Ge ?_|refine GJ ?_|refine Hv ?_|(refine Tx 13 ?_;refine gO xEq <| gO xA ?_)|(refine Tx 15 ?_;refine gO xEq <| gO xA ?_)|(refine Tx 17 ?_;refine gO xEq <| gO xA ?_)|(refine Tx 18 ?_;refine gO xM <| gO (xCc func217 A0 (args:=[_]) rfl) <| gO xM <| gO (xCc func217 A1 (args:=[_]) rfl) <| gO (xCl func145 (C)) <| gZ (xSk Ac) ?_))
  exact DH
 ·
  obtain ⟨a,hA0,ha0,hl0⟩:=B.a0 (by omega)
  have hl0:=hl0 (by omega)
  have hL0:=(gS.1 hA0).1
  obtain ⟨P,hP⟩:∃ P,c.R[a]?.getD iZ=P:=⟨_,rfl⟩
  have sp:=(Bx sR a).more LBx LBx
  have A0:=BX t u c y 0 hA0 (by omega) (by omega) (by omega)
  have hj0:(Dv c.R y)[0]?=some P:=Cv (by omega) hA0 (by rw [am,←hP];exact TD (by omega))
  rw [hP] at sp A0
  obtain ⟨b,hA1,ha1,hl1⟩:=B.a1 (by omega)
  have hL1:=(gS.1 hA1).1
  obtain ⟨Q,hQ⟩:∃ Q,c.R[b]?.getD iZ=Q:=⟨_,rfl⟩
  have sq:=(Bx sR b).more LBx LBx
  have A1:=BX t u c y 1 hA1 (by omega) (by omega) (by omega)
  have hj1:(Dv c.R y)[1]?=some Q:=Cv (by omega) hA1 (by rw [am,←hQ];exact TD (by omega))
  rw [hQ] at sq A1
  have C:=Rc P Q sp sq
  have hb:Mi ps c.R y=Afu P Q:=by unfold Mi Bv Fg;simp [h,hj0,hj1]
  have ws:IwS (Afu P Q) 20000 20000:=by
   have:=GE (y:=y) (Eb (y:=y) sR) (fun h2=>B.sv (by omega)) (fun h2=>B.su h2) (by omega)
   rw [show Fg y (Dv c.R y)=Afu P Q by unfold Fg;simp [h,hj0,hj1]] at this
   exact Hw
  unfold CS
  rw [hb]
  have IS:=BQ _ _ ws wi
  repeat' (with_reducible first|refine Ge ?_|refine GJ ?_|refine Hv ?_|(refine Tx 13 ?_;refine gO xEq <| gO xA ?_)|(refine Tx 15 ?_;refine gO xEq <| gO xA ?_)|(refine Tx 17 ?_;refine gO xEq <| gO xA ?_)|(refine Tx 19 ?_;refine gO xEq <| gO xA ?_)|(refine Tx 21 ?_;refine gO xEq <| gO xA ?_)|(refine Tx 23 ?_;refine gO xEq <| gO xA ?_)|(refine Tx 25 ?_;refine gO xEq <| gO xA ?_)|(refine Tx 26 ?_;refine gO xM <| gO (xCc func217 A0 (args:=[_]) rfl) <| gO xM <| gO (xCc func217 A1 (args:=[_]) rfl) <| gO (xCl func148 (C)) <| gZ (xSk Ac) ?_))
  exact DH
 ·
  obtain ⟨a,hA0,ha0,hl0⟩:=B.a0 (by omega)
  have hl0:=hl0 (by omega)
  have hL0:=(gS.1 hA0).1
  obtain ⟨P,hP⟩:∃ P,c.R[a]?.getD iZ=P:=⟨_,rfl⟩
  have sp:=(Bx sR a).more LBx LBx
  have A0:=BX t u c y 0 hA0 (by omega) (by omega) (by omega)
  have hj0:(Dv c.R y)[0]?=some P:=Cv (by omega) hA0 (by rw [am,←hP];exact TD (by omega))
  rw [hP] at sp A0
  obtain ⟨b,hA1,ha1,hl1⟩:=B.a1 (by omega)
  have hL1:=(gS.1 hA1).1
  obtain ⟨Q,hQ⟩:∃ Q,c.R[b]?.getD iZ=Q:=⟨_,rfl⟩
  have sq:=(Bx sR b).more LBx LBx
  have A1:=BX t u c y 1 hA1 (by omega) (by omega) (by omega)
  have hj1:(Dv c.R y)[1]?=some Q:=Cv (by omega) hA1 (by rw [am,←hQ];exact TD (by omega))
  rw [hQ] at sq A1
  have C:=Rd P Q sp sq
  have hb:Mi ps c.R y=AdL P Q:=by unfold Mi Bv Fg;simp [h,hj0,hj1]
  have ws:IwS (AdL P Q) 20000 20000:=by
   have:=GE (y:=y) (Eb (y:=y) sR) (fun h2=>B.sv (by omega)) (fun h2=>B.su h2) (by omega)
   rw [show Fg y (Dv c.R y)=AdL P Q by unfold Fg;simp [h,hj0,hj1]] at this
   exact Hw
  unfold CS
  rw [hb]
  have IS:=BQ _ _ ws wi
  repeat' (with_reducible first|refine Ge ?_|refine GJ ?_|refine Hv ?_|(refine Tx 13 ?_;refine gO xEq <| gO xA ?_)|(refine Tx 15 ?_;refine gO xEq <| gO xA ?_)|(refine Tx 17 ?_;refine gO xEq <| gO xA ?_)|(refine Tx 19 ?_;refine gO xEq <| gO xA ?_)|(refine Tx 21 ?_;refine gO xEq <| gO xA ?_)|(refine Tx 23 ?_;refine gO xEq <| gO xA ?_)|(refine Tx 25 ?_;refine gO xEq <| gO xA ?_)|(refine Tx 27 ?_;refine gO xEq <| gO xA ?_)|(refine Tx 28 ?_;refine gO xM <| gO (xCc func217 A0 (args:=[_]) rfl) <| gO xM <| gO (xCc func217 A1 (args:=[_]) rfl) <| gO (xCl func149 (C)) <| gZ (xSk Ac) ?_))
  exact DH
 ·
  obtain ⟨a,hA0,ha0,hl0⟩:=B.a0 (by omega)
  have hl0:=hl0 (by omega)
  have hL0:=(gS.1 hA0).1
  obtain ⟨P,hP⟩:∃ P,c.R[a]?.getD iZ=P:=⟨_,rfl⟩
  have sp:=(Bx sR a).more LBx LBx
  have A0:=BX t u c y 0 hA0 (by omega) (by omega) (by omega)
  have hj0:(Dv c.R y)[0]?=some P:=Cv (by omega) hA0 (by rw [am,←hP];exact TD (by omega))
  rw [hP] at sp A0
  have C:=Rf P sp
  have hb:Mi ps c.R y=QX P:=by unfold Mi Bv Fg;simp [h,hj0]
  have ws:IwS (QX P) 20000 20000:=by
   have:=GE (y:=y) (Eb (y:=y) sR) (fun h2=>B.sv (by omega)) (fun h2=>B.su h2) (by omega)
   rw [show Fg y (Dv c.R y)=QX P by unfold Fg;simp [h,hj0]] at this
   exact Hw
  unfold CS
  rw [hb]
  have IS:=BQ _ _ ws wi
  repeat' (with_reducible first|refine Ge ?_|refine GJ ?_|refine Hv ?_|(refine Tx 13 ?_;refine gO xEq <| gO xA ?_)|(refine Tx 15 ?_;refine gO xEq <| gO xA ?_)|(refine Tx 17 ?_;refine gO xEq <| gO xA ?_)|(refine Tx 19 ?_;refine gO xEq <| gO xA ?_)|(refine Tx 21 ?_;refine gO xEq <| gO xA ?_)|(refine Tx 22 ?_;refine gO xM <| gO (xCc func217 A0 (args:=[_]) rfl) <| gO (xCl func147 (C)) <| gZ (xSk Ac) ?_))
  exact DH
 ·
  obtain ⟨a,hA0,ha0,hl0⟩:=B.a0 (by omega)
  have hl0:=hl0 (by omega)
  have hL0:=(gS.1 hA0).1
  obtain ⟨P,hP⟩:∃ P,c.R[a]?.getD iZ=P:=⟨_,rfl⟩
  have sp:=(Bx sR a).more LBx LBx
  have A0:=BX t u c y 0 hA0 (by omega) (by omega) (by omega)
  have hj0:(Dv c.R y)[0]?=some P:=Cv (by omega) hA0 (by rw [am,←hP];exact TD (by omega))
  rw [hP] at sp A0
  have hv:=B.sv (by omega)
  have RV:=FZ y.vn y.ve hv
  have sv:=(FB hv).more LBx LBx
  have hu:=B.su h
  have RU:=FZ y.un y.ue hu
  have su:=(FB hu).more LBx LBx
  have C:=SW P (Ae y.vn 0 y.ve) (Ae y.un 0 y.ue) sp sv su (B.cl h)
  have hb:Mi ps c.R y=UA P (Ae y.vn 0 y.ve) (Ae y.un 0 y.ue):=by unfold Mi Bv Fg;simp [h,hj0]
  have ws:IwS (UA P (Ae y.vn 0 y.ve) (Ae y.un 0 y.ue)) 20000 20000:=by
   have:=GE (y:=y) (Eb (y:=y) sR) (fun h2=>B.sv (by omega)) (fun h2=>B.su h2) (by omega)
   rw [show Fg y (Dv c.R y)=UA P (Ae y.vn 0 y.ve) (Ae y.un 0 y.ue) by unfold Fg;simp [h,hj0]] at this
   exact Hw
  unfold CS
  rw [hb]
  have IS:=BQ _ _ ws wi
  repeat' (with_reducible first|refine Ge ?_|refine GJ ?_|refine Hv ?_|(refine Tx 13 ?_;refine gO xEq <| gO xA ?_)|(refine Tx 15 ?_;refine gO xEq <| gO xA ?_)|(refine Tx 17 ?_;refine gO xEq <| gO xA ?_)|(refine Tx 19 ?_;refine gO xEq <| gO xA ?_)|(refine Tx 21 ?_;refine gO xEq <| gO xA ?_)|(refine Tx 23 ?_;refine gO xEq <| gO xA ?_)|(refine Tx 25 ?_;refine gO xEq <| gO xA ?_)|(refine Tx 27 ?_;refine gO xEq <| gO xA ?_)|(refine Mp (id:=5) 12 [(12,11)] AV (by kernel_rfl) ?_;dsimp only [List.take,List.drop];refine gP xM <| gP (xCc func217 A0 (args:=[_]) rfl) <| gP xF <| gP xL <| gP AmY <| gP xF <| gP xL <| gP AmY <| gP (xCl func150 (C)) <| gP xMt <| gP (by exact DB rfl rfl rfl) <| gP xEx ?_;refine Ke ?_;refine gZ (xSk Ac) ?_))
  exact DH
end Go.Proofs.YtmdfjbpggbhgnaaGreatDoor
