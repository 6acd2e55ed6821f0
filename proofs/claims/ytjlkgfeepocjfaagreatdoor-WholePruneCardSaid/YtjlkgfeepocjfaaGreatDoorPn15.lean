/- What the proofs of this claim share, part 15. No conditions. -/
import Derived.Test.YtjlkgfeepocjfaaGreatDoorPn14
import Derived.Test.YtjlkgfeepocjfaaGreatDoorPn10
import Derived.Test.YtjlkgfeepocjfaaGreatDoorPn11
import Derived.Test.YtjlkgfeepocjfaaGreatDoorPn9
set_option maxRecDepth 100000
set_option maxHeartbeats 4000000
set_option linter.all false
open Go.Proofs.Tryz
namespace Go.Proofs.YtjlkgfeepocjfaaGreatDoor
open Go.RowKit
variable {i id j n t ty:Nat} {l:List (Option Iq)} {H:List Ob} {a r:Iq} {y:Bk} {ps:List Prt} {bs:List Bk} {F os:List Int} {st:List (Iq)} {s:Int} {p p':Prop} {q:Rv × Rv} {w:Bool} {f:Nat→Int} {Y:List Ins} {E:List Pq} {R:List Iq}
abbrev iZ:Iq:=((0,0),(0,0))
def kW:Option Iq→List C
 | none=>[.d (.val (.bool false)),.d (.val (.slice none 0 0)),.d (.val (.int .i64 0)),.d (.val (.bool false)),.d (.val (.slice none 0 0)),.d (.val (.int .i64 0))]
 | some a=>(dIw false a).map C.d
def kWs (l:List (Option Iq)):List C:=(l.map kW).flatten
def gW (l:List (Option Iq)):List Iq:=l.map (·.getD iZ)
theorem Re (o:Option Iq):(kW o).length=6:=by cases o <;> rfl
theorem FU (o:Option Iq) (l:List (Option Iq)):kWs (o::l)=kW o++kWs l:=by simp [kWs]
theorem Aoh (l:List (Option Iq)):(kWs l).length=l.length*6:=by
 induction l with
 | nil=>rfl
 | cons o l ih=>rw [FU,aq,ih,Re,cq];omega
theorem AkL:∀ {l:List (Option Iq)} {i:Nat} {o:Option Iq},l[i]?=some o→((kWs l).drop (i*6)).take 6=kW o
 | [],i,o,h=>by simp at h
 | q::l,0,o,h=>by
  simp only [eb,Option.some.injEq] at h
  subst h
  rw [FU,ep,ju,ki (by rw [Re];omega),am (by rw [Re];omega)]
 | q::l,i+1,o,h=>by
  simp only [fi] at h
  rw [FU,show (i+1)*6=(kW q).length+i*6 by rw [Re];omega,←kx,jk]
  exact AkL h
theorem Aft:∀ {l:List (Option Iq)} {i:Nat} (a:Iq),i<l.length→(kWs l).take (i*6)++(dIw false a).map C.d++(kWs l).drop (i*6+6)=kWs (l.set i (some a))
 | [],i,a,h=>by simp at h
 | q::l,0,a,h=>by
  rw [FU,ep,ik,ea,ax,dc,FU,show (6:Nat)=(kW q).length from (Re q).symm,jk]
  rfl
 | q::l,i+1,a,h=>by
  have ih:=Aft (l:=l) (i:=i) a (by simpa using h)
  rw [FU,df,FU,←ih,show (i+1)*6+6=(kW q).length+(i*6+6) by rw [Re];omega,←kx,jk,show (i+1)*6=(kW q).length+i*6 by rw [Re];omega,List.take_length_add_append]
  simp
theorem Aoi (n:Nat):DW (madeCells (Value.agg #[.bool false,.slice none 0 0,.int .i64 0,.bool false,.slice none 0 0,.int .i64 0]).cells (n*6)).toList=kWs (List.replicate n none):=by
 have h1:∀ a:Nat,(madeCells (Value.agg #[.bool false,.slice none 0 0,.int .i64 0,.bool false,.slice none 0 0,.int .i64 0]).cells a).toList=(List.range a).map (fun j=>#[Value.bool false,.slice none 0 0,.int .i64 0,.bool false,.slice none 0 0,.int .i64 0][j % 6]!):=fun a=>by
  unfold madeCells
  rw [kg,Array.toList_range]
  rfl
 rw [h1]
 induction n with
 | zero=>rfl
 | succ n ih =>
  rw [show (n+1)*6=n*6+1+1+1+1+1+1 by omega,cr,cr,cr,cr,cr,cr,List.replicate_succ']
  simp only [ct,DW] at ih ⊢
  rw [ih]
  simp only [kWs,ct,List.flatten_append,br,fz,show n*6 % 6=0 by omega,show (n*6+1) % 6=1 by omega,show (n*6+1+1) % 6=2 by omega,show (n*6+1+1+1) % 6=3 by omega,show (n*6+1+1+1+1) % 6=4 by omega,show (n*6+1+1+1+1+1) % 6=5 by omega,jl]
  rfl
theorem Aoj:∀ c∈kWs l,C.bel n c:=fun c hc=>by
 obtain ⟨cs,hcs,hc⟩:=List.mem_flatten.1 hc
 obtain ⟨o,_,rfl⟩:=List.mem_map.1 hcs
 cases o with
 | none=>simp [kW] at hc;rcases hc with rfl|rfl|rfl|rfl|rfl|rfl <;> trivial
 | some p=>exact AnH c hc
theorem Asq {t:Bool} (o:Option Iq):AP (FA t H) (kW o) (dIw false (o.getD iZ)):=by
 cases o with
 | none =>
  show AP (FA t H) _ (dIw false iZ)
  rw [AnX]
  exact .cons_ (.d fun _=>.val _) (.cons_ .nil (.cons_ (.d fun _=>.val _) (.cons_ (.d fun _=>.val _) (.cons_ .nil (.cons_ (.d fun _=>.val _) .nil_)))))
 | some p=>exact AP.map_l.2 ⟨rfl,fun j a b ha hb=>by
   have:(dIw false p)[j]?=some b:=hb
   rw [ha] at this
   cases this
   exact .d fun _=>LV _ a (gM ha)⟩
theorem Aok {t:Bool} (l:List (Option Iq)):AP (FA t H) (kWs l) (Ar (dIw false) (gW l)):=by
 induction l with
 | nil=>exact AP.nil_
 | cons o l ih =>
  rw [FU]
  exact (Asq o).app ih
theorem Afu (l:List (Option Iq)):(gW l).length=l.length:=ad ..
theorem Asr {p:Iq} (h:l[i]?=some (some p)):(gW l)[i]?=some p:=by
 unfold gW
 rw [ag,h]
 rfl
theorem Afv {t:Bool} {c:C} {y:D} (hc:c=.own id n) (hH:H[id]?=some (.row ty 6 n (kWs l))) (hy:y=.row t 6 n (Ar (dIw false) (gW l))):FA t H c y:=EI hc hH hy (Aok l)
section
variable {P:Program} {G:World→Prop} {o:Oper} {F:Frm} {H:List Ob}
theorem WZ {t e:TypeId} {x y:Operand} {by_:Nat} {k k':IntKind} (ho:o.op=.makeSlice t x y) (hx:F.ev x=.one (.d (.val (.int k (n:Int))))) (hy:F.ev y=.one (.d (.val (.int k' (n:Int))))) (ht:TyS P t e 6) (hz:TyZ P e (.agg #[.bool false,.slice none 0 0,.int .i64 0,.bool false,.slice none 0 0,.int .i64 0]) 6 by_) (hn:n≤1000000) (hby:by_≤1000) :
  AU P G o F H (.one (.own H.length n)) [.row e 6 n (kWs (List.replicate n none))]:=by
 have:=Bo (P:=P) (G:=G) (H:=H) ho hx hy ht hz hn hby
 rwa [Aoi] at this
theorem Aol {t ty:TypeId} {x:Operand} {p:Iq} (ho:o.op=.load t x) (hx:F.ev x=.one (.ref id (i*6) (some n))) (hH:H[id]?=some (.row ty 6 n (kWs l))) (hp:l[i]?=some (some p)) (hk:TyK P t true 6):AU P G o F H (.agg ((dIw false p).map C.d)) [] :=
 Pg ho hx (.row hH) hk (AkL hp) rfl
theorem Aom {t ty:TypeId} {x y:Operand} {l':List (Option Iq)} {p:Iq} (ho:o.op=.store t x y) (hx:F.ev x=.one (.ref id (i*6) (some n))) (hH:H[id]?=some (.row ty 6 n (kWs l))) (hy:F.ev y=.agg ((dIw false p).map C.d)) (hty:TyK P t true 6) (hi:i<l.length) (hl:l.set i (some p)=l'):TOk P G o F H .any (H.set id (.row ty 6 n (kWs l'))):=by
 have h3:((dIw false p).map C.d).length=6:=rfl
 have:=Qv (P:=P) (G:=G) ho hx hH rfl (show EY (F.ev y)=some ((dIw false p).map C.d) by rw [hy];rfl) hty rfl (by rw [h3];show i*6+6≤(kWs l).length;rw [Aoh];omega)
 rw [h3] at this
 simp only [Ob.cs,Ob.setC] at this
 rw [Aft p hi,hl] at this
 exact this
end
def Hn (a:Iq):Bool:=Cp a.1 || Cp a.2
def Rf (p:Prt):Iq:=(Ac p.lo 0 (-p.fr),Ac p.hi 0 (-p.fr))
def FV (y:Bk) (l:List Iq):Iq :=
 if y.kind=1 then (Ac y.vn 0 y.ve,Ac y.vn 0 y.ve)
 else if y.kind=3 then AkD (l[0]?.getD iZ) (l[1]?.getD iZ)
 else if y.kind=4 then AnV (l[0]?.getD iZ) (l[1]?.getD iZ)
 else if y.kind=5 then AiF (l[0]?.getD iZ)
 else if y.kind=6 then OA (l[0]?.getD iZ) (Ac y.vn 0 y.ve)
 else if y.kind=7 then AkE (l[0]?.getD iZ) (l[1]?.getD iZ)
 else if y.kind=8 then AkF (l[0]?.getD iZ) (l[1]?.getD iZ)
 else if y.kind=9 then AiG (l[0]?.getD iZ) (l[1]?.getD iZ)
 else if y.kind=10 then YI (l[0]?.getD iZ)
 else YJ (l[0]?.getD iZ) (Ac y.vn 0 y.ve) (Ac y.un 0 y.ue)
def Bx (y:Bk) (l:List Iq) (ps:List Prt):Iq:=if y.kind=0 then (ps[((y.args[0]?).getD 0).toNat]?.map Rf).getD iZ else FV y l
theorem Tg {d:Nat} (h:IwS a n d) (hl:Hn a=false):IwS a LB LB:=by
 unfold Hn at hl
 rw [je] at hl
 exact ⟨AbN h.s1.ok hl.1,AbN h.s2.ok hl.2,h.le⟩
theorem IwS.zero (n d:Nat):IwS iZ n d:=.pt (Sm.zero n d)
theorem BP {l:List Iq} {d:Nat} (h:∀ p∈l,IwS p n d) (k:Nat):IwS (l[k]?.getD iZ) n d:=by
 cases hk:l[k]? with
 | none=>exact IwS.zero n d
 | some p=>exact h p (gM hk)
theorem Ho {n e:Int} (h:DA n e):Sm (Ac n 0 e) LB LB:=by
 obtain ⟨h1,h2,h3,h4⟩:=h
 exact (Sm.shift (n:=32) (by omega) (by omega) (by omega)).more (by decide) (by decide)
theorem Io {l:List Iq} (hl:∀ p∈l,IwS p LB LB) (hv:(y.kind=1∨y.kind=6∨y.kind=11)→DA y.vn y.ve) (hu:y.kind=11→DA y.un y.ue) (hk:y.kind=1∨y.kind=3∨y.kind=4∨y.kind=5∨y.kind=6∨y.kind=7∨y.kind=8∨y.kind=9∨y.kind=10∨y.kind=11):IwS (FV y l) LC LC:=by
 have a:=BP hl 0
 have b:=BP hl 1
 have up:∀ {r:Iq},IwS r LB LB→IwS r LC LC:=fun h=>h.more (by decide) (by decide)
 unfold FV
 generalize l[0]?.getD iZ=p at a ⊢
 generalize l[1]?.getD iZ=q at b ⊢
 rcases hk with h|h|h|h|h|h|h|h|h|h <;> simp only [h,Int.reduceEq,if_true,if_false,reduceIte]
 ·exact up (.pt (Ho (hv (.inl h))))
 ·exact (IwS.add a b (by decide:LB≤65536)).more (by decide:LB+LB+1≤LC) Auc
 ·exact (IwS.sub a b (by decide:LB≤65536)).more (by decide:LB+LB+1≤LC) Auc
 ·exact up a.neg
 ·exact (IwS.mul a (.pt (Ho (hv (.inr (.inl h))))) (by decide:LB≤30000)).more (by decide:LB+LB≤LC) (by decide:LB+LB≤LC)
 ·exact (IwS.mul a b (by decide:LB≤30000)).more (by decide:LB+LB≤LC) (by decide:LB+LB≤LC)
 ·exact up (a.min b)
 ·exact up (a.max b)
 ·exact up a.abs
 ·exact up (a.clip (Ho (hv (.inr (.inr h)))) (Ho (hu h)))
structure UM (p:Prt):Prop where
 l0 : -2147483648≤p.lo
 le:p.lo≤p.hi
 h1:p.hi<2147483648
 f0:0≤p.fr
 f1:p.fr≤30
theorem UO {z f:Int} (f0:0≤f) (f1:f≤30):gv (Ac z 0 (-f))*2 ^ f.toNat=z*2 ^ GQ:=by
 have:=WM (p:=(z,0)) (n:=f.toNat) (by show 0+f.toNat≤65536;omega) (by omega)
 rw [show (-(f.toNat:Int)) = -f by omega,Tc] at this
 exact this
theorem UQ {z f:Int} (h0 : -2147483648≤z) (h1:z<2147483648) (f0:0≤f) (f1:f≤30):Sm (Ac z 0 (-f)) 264 200:=Sm.shift (n:=64) (by omega) (by omega) (by omega)
theorem UM.iw {p:Prt} (h:UM p):IwS (Rf p) 264 200:=by
 obtain ⟨h1,h2,h3,h4,h5⟩:=h
 refine ⟨UQ h1 (by omega) h4 h5,UQ (by omega) h3 h4 h5,?_⟩
 have e1:=UO (z:=p.lo) h4 h5
 have e2:=UO (z:=p.hi) h4 h5
 refine Int.not_lt.1 fun hc=>?_
 have:=mf hc (Bv p.fr.toNat)
 have g2:=fq h2 (ck (Bv GQ))
 have e1':gv (Rf p).1*2 ^ p.fr.toNat=p.lo*2 ^ GQ:=e1
 have e2':gv (Rf p).2*2 ^ p.fr.toNat=p.hi*2 ^ GQ:=e2
 omega
theorem UM.scale {p:Prt} (h:UM p):OA (DJ [(p.lo,0),(p.hi,0)]) (Ac 1 0 (-p.fr))=Rf p:=by
 have H:=h.iw
 obtain ⟨h1,h2,h3,h4,h5⟩:=h
 have s1:Sm (p.lo,0) 264 200:=LW p.lo (by omega) (by decide)
 have s2:Sm (p.hi,0) 264 200:=LW p.hi (by omega) (by decide)
 obtain ⟨e1,e2,e3⟩:=Im s1 s2
 have s3:Sm (Ac 1 0 (-p.fr)) 264 200:=UQ (by decide) (by decide) h4 h5
 have g2:=fq h2 (ck (Bv GQ))
 rw [Tc,Tc] at e1 e2
 have E1:gv (DJ [(p.lo,0),(p.hi,0)]).1=p.lo*2 ^ GQ:=by rw [e1];omega
 have E2:gv (DJ [(p.lo,0),(p.hi,0)]).2=p.hi*2 ^ GQ:=by rw [e2];omega
 generalize DJ [(p.lo,0),(p.hi,0)]=w at e3 E1 E2 ⊢
 have m1:=Sm.mul e3.s1 s3 (by decide)
 have m2:=Sm.mul e3.s2 s3 (by decide)
 obtain ⟨k1,k2,k3⟩:=GE m1 m1 m2 m2
 have mg:∀ {x:Pq} {z:Int},Sm x 264 200→gv x=z*2 ^ GQ→gv (Dj x (Ac 1 0 (-p.fr)))=gv (Ac z 0 (-p.fr)):=fun {x z} hx hz=>by
  have a1:=Aff (p:=x) (q:=Ac 1 0 (-p.fr)) (lT (fa hx.d s3.d) (by decide))
  have a2:=UO (z:=1) h4 h5
  have a3:=UO (z:=z) h4 h5
  rw [hz] at a1
  have p1:=Bv GQ
  have p2:=Bv p.fr.toNat
  refine kw (jf p2) (kw (jf p1) ?_)
  rw [a3,jg,a1,bc (z*2 ^ GQ),a2,Int.one_mul]
 have G1:=mg e3.s1 E1
 have G2:=mg e3.s2 E2
 refine AkK (n:=264+264) (d:=200+200) k3 H ?_ ?_
 ·show gv (DJ [Dj w.1 (Ac 1 0 (-p.fr)),Dj w.1 (Ac 1 0 (-p.fr)),Dj w.2 (Ac 1 0 (-p.fr)),Dj w.2 (Ac 1 0 (-p.fr))]).1=gv (Ac p.lo 0 (-p.fr))
  rw [k1,G1,G2]
  have:=H.le
  simp only [Rf] at this
  omega
 ·show gv (DJ [Dj w.1 (Ac 1 0 (-p.fr)),Dj w.1 (Ac 1 0 (-p.fr)),Dj w.2 (Ac 1 0 (-p.fr)),Dj w.2 (Ac 1 0 (-p.fr))]).2=gv (Ac p.hi 0 (-p.fr))
  rw [k2,G1,G2]
  have:=H.le
  simp only [Rf] at this
  omega
theorem Xa (h:Av ps bs os=0) {i:Nat} {p:Prt} (hp:ps[i]?=some p):UM p:=by
 have hpp:=Uo h hp
 have h3 : -2147483648≤p.lo∧p.lo≤p.hi∧p.hi<2147483648∧0≤p.fr∧p.fr≤30:=bz fun hn=>by unfold DI at hpp;rw [if_neg hn] at hpp;cases hpp
 exact ⟨h3.1,h3.2.1,h3.2.2.1,h3.2.2.2.1,h3.2.2.2.2⟩
def Oc (vs:List (Option (Iq))) (y:Bk):List (Iq):=if y.kind=0 then [] else y.args.map fun a=>(vs[a.toNat]?.getD none).getD iZ
def tkW (ps:List Prt) (bs:List Bk) (vs:List (Option (Iq))) (i:Nat):Iq:=match bs[i]? with
 | some y=>Bx y (Oc vs y) ps
 | none=>iZ
def Aon (ps:List Prt) (bs:List Bk) (vs:List (Option (Iq))) (l:List Nat):List (Option (Iq)):=l.foldl (fun v i=>v.set i (some (tkW ps bs  v i))) vs
def AbV (dl:List Nat) (st:List (Iq)) (vs:List (Option (Iq))):List (Option (Iq)):=(dl.zip st).foldl (fun v p=>v.set p.1 (some p.2)) vs
theorem Aaq (ps:List Prt) (bs:List Bk):∀ (l:List Nat) (vs:List (Option (Iq))),(Aon ps bs  vs l).length=vs.length
 | [],vs=>rfl
 | i::l,vs=>by show (Aon ps bs  _ l).length=_;rw [Aaq ps bs  l];simp
theorem PG:∀ (dl:List Nat) (st:List (Iq)) (vs:List (Option (Iq))),(AbV dl st vs).length=vs.length
 | [],st,vs=>rfl
 | i::dl,[],vs=>rfl
 | i::dl,x::st,vs=>by show (AbV dl st _).length=_;rw [PG dl st];simp
theorem Afw (ps:List Prt) (bs:List Bk) (vs:List (Option (Iq))) {l:List Nat} {t j:Nat} (h:l[t]?=some j):Aon ps bs  vs (l.take (t+1))=(Aon ps bs  vs (l.take t)).set j (some (tkW ps bs  (Aon ps bs  vs (l.take t)) j)):=by
 unfold Aon
 rw [ak,h,dr,io]
 rfl
theorem Xb (vs:List (Option (Iq))) {dl:List Nat} {st:List (Iq)} {t j:Nat} {p:Iq} (h:dl[t]?=some j) (h2:st[t]?=some p):AbV (dl.take (t+1)) (st.take (t+1)) vs=(AbV (dl.take t) (st.take t) vs).set j (some p):=by
 have l1:=(gS.1 h).1
 have l2:=(gS.1 h2).1
 unfold AbV
 rw [ak,ak,h,h2,dr,dr,List.zip_append (by simp;omega),io]
 rfl
def rgS (ps:List Prt) (bs:List Bk) (st:List (Iq)) (t:Nat):List (Option (Iq)):=Aon ps bs  (AbV (AW bs) st (List.replicate bs.length none)) ((Bb bs).take t)
def rgN (ps:List Prt) (bs:List Bk) (st:List (Iq)) (t:Nat):Iq:=tkW ps bs  (rgS ps bs st t) ((Bb bs)[t]?.getD 0)
def Gg (ps:List Prt) (bs:List Bk) (st:List (Iq)):Bool:=st.any Hn || (List.range (Bb bs).length).any fun t=>Hn (rgN ps bs st t)
def rgV (ps:List Prt) (bs:List Bk) (st:List (Iq)):List (Iq):=gW (rgS ps bs st  (Bb bs).length)
theorem Rg (ps:List Prt) (bs:List Bk) (st:List (Iq)) (t:Nat):(rgS ps bs st t).length=bs.length:=by unfold rgS;rw [Aaq,PG,dz]
theorem Aar (h:(Bb bs)[t]?=some j):rgS ps bs st  (t+1)=(rgS ps bs st t).set j (some (rgN ps bs st t)):=by
 unfold rgN
 rw [h]
 exact Afw ps bs  _ h
theorem Aoo (ps:List Prt) (bs:List Bk) (st:List (Iq)):rgS ps bs st  0=AbV (AW bs) st (List.replicate bs.length none):=rfl
structure Afx (vs:List (Option (Iq))) (D:Nat→Prop):Prop where
 at_:∀ i,D i→∃ p,vs[i]?=some (some p)∧IwS p LB LB
theorem Afx.set {vs:List (Option (Iq))} {D D':Nat→Prop} (h:Afx vs D) {j:Nat} {p:Iq} (hj:j<vs.length) (hp:IwS p LB LB) (hD:∀ i,D' i→D i∨i=j):Afx (vs.set j (some p)) D':=⟨fun i hi=>by
 rw [bu]
 by_cases hij:j=i
 ·rw [if_pos hij,if_pos hj]
  exact ⟨p,rfl,hp⟩
 ·rw [if_neg hij]
  rcases hD i hi with h1|h1
  ·exact h.at_ i h1
  ·exact absurd h1.symm hij⟩
theorem AiR {k:Nat} {p:Iq} (h:st[k]?=some p) (hl:Hn p=true):Gg ps bs st  = true:=by
 unfold Gg
 rw [de]
 exact .inl (List.any_eq_true.2 ⟨p,gM h,hl⟩)
theorem AiS (h:t<(Bb bs).length) (hl:Hn (rgN ps bs st t)=true):Gg ps bs st  = true:=by
 unfold Gg
 rw [de]
 exact .inr (List.any_eq_true.2 ⟨t,List.mem_range.2 h,hl⟩)
theorem AiT (h1:∀ p∈st,Hn p=false) (h2:∀ t,t<(Bb bs).length→Hn (rgN ps bs st t)=false):Gg ps bs st  = false:=by
 unfold Gg
 rw [je]
 exact ⟨List.any_eq_false.2 fun p hp=>by rw [h1 p hp];decide,List.any_eq_false.2 fun t ht=>by rw [h2 t (List.mem_range.1 ht)];decide⟩
theorem Aas (hn:∀ p∈st,IwS p LB LB) (hl:st.length=(AW bs).length):Afx (AbV (AW bs) st (List.replicate bs.length none)) (SW bs 0):=by
 have key:∀ t,t≤(AW bs).length→Afx (AbV ((AW bs).take t) (st.take t) (List.replicate bs.length none)) (fun i=>i∈(AW bs).take t):=fun t=>by
  induction t with
  | zero=>intro _;exact ⟨fun i hi=>by simp at hi⟩
  | succ t ih =>
   intro ht
   obtain ⟨j,hj⟩:∃ j,(AW bs)[t]?=some j:=⟨_,gE (by omega)⟩
   obtain ⟨p,hp⟩:∃ p,st[t]?=some p:=⟨_,gE (by omega)⟩
   have h1:=hn p (gM hp)
   rw [Xb _ hj hp]
   refine (ih (by omega)).set (by rw [PG,dz];have:=gM hj;unfold AW at this;rw [iq,gc] at this;exact this.1) h1 fun i hi=>?_
   rw [ak,hj] at hi
   simpa using hi
 have h:=key (AW bs).length (aa _)
 rw [az,am (by omega)] at h
 refine ⟨fun i hi=>h.at_ i ?_⟩
 rcases hi with ⟨h1,h2⟩|h1
 ·unfold AW
  rw [iq,gc,h2]
  exact ⟨h1,rfl⟩
 ·simp at h1
theorem Xc (h:Afx (rgS ps bs st t) (SW bs t)) (hj:(Bb bs)[t]?=some j) (hsm:IwS (rgN ps bs st t) LB LB):Afx (rgS ps bs st  (t+1)) (SW bs (t+1)):=by
 rw [Aar hj]
 refine h.set (by rw [Rg];exact (FP hj).1) hsm fun i hi=>?_
 rcases hi with h1|h1
 ·exact .inl (.inl h1)
 ·rw [ak,hj] at h1
  rcases List.mem_append.1 h1 with h1|h1
  ·exact .inl (.inr h1)
  ·exact .inr (by simpa using h1)
theorem AiU (he:Av ps bs os=0) {st:List (Iq)} (h:Afx (rgS ps bs st  (Bb bs).length) (SW bs (Bb bs).length)) {i:Nat} (hi:i<bs.length):∃ p,(rgS ps bs st  (Bb bs).length)[i]?=some (some p)∧IwS p LB LB:=by
 refine h.at_ i ?_
 by_cases hk:AQ bs i=2
 ·exact .inl ⟨hi,hk⟩
 ·refine .inr ?_
  rw [az]
  exact Yu (FK he).2.2 hi hk
theorem GZ {l:List Iq} {k:Nat} (h:l[k]?=some a):((Ar (dIw false) l).drop (k*6)).take 6=dIw false a:=EO (f:=dIw false) (s:=6) (fun _=>rfl) h
structure Ass (ps:List Prt) (bs:List Bk) (vs:List (Option Iq)) (y:Bk):Prop where
 hk:y.kind=0∨y.kind=1∨y.kind=3∨y.kind=4∨y.kind=5∨y.kind=6∨y.kind=7∨y.kind=8∨y.kind=9∨y.kind=10∨y.kind=11
 args:y.kind≠0→∀ (k:Nat) (a:Int),y.args[k]?=some a→∃ p,0≤a∧a.toNat<bs.length∧vs[a.toNat]?=some (some p)∧(Oc vs y)[k]?=some p
 len:y.args.length≤2
 hl:∀ k:Nat,(k=0∧y.kind≠0∧y.kind≠1∨k=1∧(y.kind=3∨y.kind=4∨y.kind=7∨y.kind=8∨y.kind=9))→∃ p i,(Oc vs y)[k]?=some p∧y.args[k]?=some ((i:Nat):Int)∧(gW vs)[i]?=some p
 hs:∀ p∈Oc vs y,IwS p LB LB
 hin:y.kind=0→∃ (i:Nat) (pp:Prt),y.args[0]?=some (i:Int)∧ps[i]?=some pp∧UM pp
 hsv:(y.kind=1∨y.kind=6∨y.kind=11)→DA y.vn y.ve
 hsu:y.kind=11→DA y.un y.ue
 hcl:y.kind=11→Oz (Ac y.vn 0 y.ve) (Ac y.un 0 y.ue)≤0
 sm:IwS (Bx y (Oc vs y) ps) LC LC
theorem Afy (he:Av ps bs os=0) {vs:List (Option Iq)} {j:Nat} {y:Bk} (hy:bs[j]?=some y) (hk2:y.kind≠2) (hv:y.kind≠0→∀ a∈y.args,0≤a→a<(bs.length:Int)→∃ p,vs[a.toNat]?=some (some p)∧IwS p LB LB):Ass ps bs vs y:=by
 have hK:=Us he hy
 have hA:=El he hy
 have hlen:y.args.length≤2:=by
  have h1:=hA.1
  have h2:=hA.2.1
  unfold Ay at h1 h2
  (repeat' split at h2) <;> omega
 have args:y.kind≠0→∀ (k:Nat) (a:Int),y.args[k]?=some a→∃ p,0≤a∧a.toNat<bs.length∧vs[a.toNat]?=some (some p)∧(Oc vs y)[k]?=some p∧IwS p LB LB:=fun h0 k a ha=>by
  have hm:=gM ha
  have hb:=hA.2.2 a hm
  rw [show Cm ps.length bs.length y.kind=bs.length from if_neg h0] at hb
  obtain ⟨p,hp,hsm⟩:=hv h0 a hm hb.1 hb.2
  exact ⟨p,hb.1,by omega,hp,by unfold Oc;rw [if_neg h0,ag,ha,bp,hp];rfl,hsm⟩
 have hs:y.kind≠0→∀ p∈Oc vs y,IwS p LB LB:=fun h0 p hp=>by
  obtain ⟨k,hk⟩:=List.mem_iff_getElem?.1 hp
  have hk':=hk
  unfold Oc at hk'
  rw [if_neg h0,ag,dg] at hk'
  obtain ⟨a,ha,_⟩:=hk'
  obtain ⟨q,_,_,_,h4,h5⟩:=args h0 k a ha
  rw [hk] at h4
  cases h4
  exact h5
 have hin:y.kind=0→∃ (i:Nat) (pp:Prt),y.args[0]?=some (i:Int)∧ps[i]?=some pp∧UM pp:=fun h0=>by
  have h1:=hA.2.1
  rw [h0] at h1
  have hl1:y.args.length=1:=by unfold Ay at h1;(repeat' split at h1) <;> omega
  obtain ⟨a,ha⟩:∃ a,y.args[0]?=some a:=⟨_,gE (by omega)⟩
  have hb:=hA.2.2 a (gM ha)
  rw [show Cm ps.length bs.length y.kind=ps.length from if_pos h0] at hb
  obtain ⟨p,hp⟩:∃ p,ps[a.toNat]?=some p:=⟨_,gE (by omega)⟩
  exact ⟨a.toNat,p,by rw [ha];congr 1;omega,hp,Xa he hp⟩
 have hsv:(y.kind=1∨y.kind=6∨y.kind=11)→DA y.vn y.ve:=fun h=>Oy he hy (by unfold Ox;rcases h with h|h|h <;> rw [h] <;> rfl)
 have hsu:y.kind=11→DA y.un y.ue:=fun h=>(IV he hy h).2.1
 have h0s:y.kind=0→∀ p∈([]:List Iq),IwS p LB LB:=fun _ p hp=>by cases hp
 have hk3:y.kind=0∨y.kind=1∨y.kind=3∨y.kind=4∨y.kind=5∨y.kind=6∨y.kind=7∨y.kind=8∨y.kind=9∨y.kind=10∨y.kind=11:=by clear hin args hs;omega
 refine ⟨hk3,fun h0 k a ha=>?_,hlen,fun k hk=>?_,?_,hin,hsv,hsu,fun h=>(IV he hy h).2.2,?_⟩
 ·obtain ⟨p,h1,h2,h3,h4,_⟩:=args h0 k a ha
  exact ⟨p,h1,h2,h3,h4⟩
 ·have h0:y.kind≠0:=by omega
  have hkl:k<y.args.length:=by
   have h1:=hA.2.1
   unfold Ay at h1
   (repeat' split at h1) <;> omega
  obtain ⟨a,ha⟩:∃ a,y.args[k]?=some a:=⟨_,gE hkl⟩
  obtain ⟨p,h1,h2,h3,h4,_⟩:=args h0 k a ha
  exact ⟨p,a.toNat,h4,by rw [ha];congr 1;omega,Asr h3⟩
 ·by_cases h0:y.kind=0
  ·unfold Oc;rw [if_pos h0];exact h0s h0
  ·exact hs h0
 ·unfold Bx
  by_cases h0:y.kind=0
  ·rw [if_pos h0]
   obtain ⟨i,pp,q1,q3,q4⟩:=hin h0
   rw [q1]
   simp only [bg,ar,q3,bp]
   exact q4.iw.more (by decide) (by decide)
  ·rw [if_neg h0]
   exact Io (hs h0) hsv hsu (by clear hin args hs;omega)
theorem Aat (he:Av ps bs os=0) {vs:List (Option Iq)} {t j:Nat} (hj:(Bb bs)[t]?=some j) (hv:Afx vs (SW bs t)):∃ y,bs[j]?=some y∧y.kind≠2∧Ass ps bs vs y:=by
 obtain ⟨hjl,hk2⟩:=FP hj
 obtain ⟨y,hy⟩:∃ y,bs[j]?=some y:=⟨_,gE hjl⟩
 rw [Fh hy] at hk2
 refine ⟨y,hy,hk2,Afy he hy hk2 fun h0 a ha a0 a1=>?_⟩
 have hsplit:Bb bs=(Bb bs).take t++j::(Bb bs).drop (t+1):=by
  obtain ⟨hlt,he⟩:=gS.1 hj
  rw [←he,←dm hlt,gh]
 have hd:=PC hsplit (a:=a) (by rw [GY hy h0];exact ha)
 exact hv.at_ a.toNat (hd.imp (fun h=>⟨by omega,h⟩) id)
theorem Aop {P:Program} {G:World→Prop} {o:Oper} {F:Frm} {ts:Array TypeId} {x y z u:Operand} {k:IntKind} {p q r:Int} (ho:o.op=.call { callee:=.builtin .max,args:=#[x,y,z,u],argTypes:=ts }) (hx:F.ev x=.one (.d (.val (.int k p)))) (hy:F.ev y=.one (.d (.val (.int k q)))) (hz:F.ev z=.one (.d (.val (.int k r)))) (hu:F.ev u=.one (.d (.val (.int k s)))):AU P G o F H (.one (.d (.val (.int k (max (max (max p q) r) s))))) []:=BS fun b0 m a hp hcx hor=>by
 have ex:=CA (m:=m) (v:=a.eval x) (by rw [←hx];exact AV hor (by rw [ho];simp [Op.operands,Call.operands]))
 have ey:=CA (m:=m) (v:=a.eval y) (by rw [←hy];exact AV hor (by rw [ho];simp [Op.operands,Call.operands]))
 have ez:=CA (m:=m) (v:=a.eval z) (by rw [←hz];exact AV hor (by rw [ho];simp [Op.operands,Call.operands]))
 have eu:=CA (m:=m) (v:=a.eval u) (by rw [←hu];exact AV hor (by rw [ho];simp [Op.operands,Call.operands]))
 refine ⟨_,?_,Ba.val rfl⟩
 unfold execOp
 have key:∀ a b:Int,(if a<b then b else a)=max a b:=fun a b=>by split <;> omega
 simp [ho,resolve,invoke,builtin,ex,ey,ez,eu,Builtin.max_,Builtin.max2,key]
theorem AkM (h:p:=by
 rw [if_pos hs,if_pos hs] at VA
 repeat' (with_reducible first|refine qq ?_|(refine Tx 0 ?_;refine gN xBo <| gN (xAl Ak) ?_)|(refine Tx 1 ?_;refine gO xL <| gO (xCl func155 (VA)) <| gO xMt <| gO (by exact Es rfl rfl rfl) <| gO xEx <| gN (xAl Ak) <| gZ (xSk Ab) <| gO xA ?_)|(refine Tx 2 ?_;refine gO xL <| gZ (xSk Ab) ?_))
 exact AN rfl (.cons_ (rvW Ab rfl) .nil_)):p:=h
theorem PH (n e:Int) (hs:DA n e):CV prog An 172 [.agg [dI n,dI e]] [aDy false (Ac n 0 e).1 (Ac n 0 e).2]:=by
 refine cvz func172 ntmps172 ?_
 have VA:=Uk n e
 exact AkM
theorem Ast (h:p:=by first|exact xCl func126 (B1)|exact xCl func126 (B2)):p:=h
theorem Xd (a:Iq) (n1:Nf a.1.1 a.1.2) (n2:Nf a.2.1 a.2.2) (l1:(Ad a.1.1.natAbs).length≤40000) (l2:(Ad a.2.1.natAbs).length≤40000):CV prog An 85 [aIw false a] [aB (Hn a)]:=by
 refine cvz func85 ntmps85 ?_
 have B1:=IR a.1.1 a.1.2 n1 (lT l1 (by decide))
 have B2:=IR a.2.1 a.2.2 n2 (lT l2 (by decide))
 have hm:decide ((4096:Int)<max (max (max ((Bl a.1.1.natAbs:Nat):Int) (a.1.2:Int)) ((Bl a.2.1.natAbs:Nat):Int)) (a.2.2:Int))=Hn a:=by unfold Hn Cp AnI;rw [Bool.eq_iff_iff,de,decide_eq_true_eq,decide_eq_true_eq,decide_eq_true_eq];omega
 repeat' (with_reducible first|refine qq ?_|(refine Tx 0 ?_;refine gN xBo <| gO xA ?_)|(refine BB (id:=1) AJ (by kernel_rfl) ?_;refine gP xF <| gP xL <| gP Ast <| gP xF <| gP xF <| gP xD <| gP xF <| gP xL <| gP Ast <| gP xF <| gP xF <| gP xD <| gP (by first|exact Aop rfl rfl rfl rfl rfl|exact FZ rfl rfl rfl) <| gP (by first|exact TM rfl rfl rfl hm|exact xGt) <| gP xA ?_;refine Ke ?_))
 exact AN rfl (.cons_ (GI rfl rfl) .nil_)
theorem GG (h:p:=by
 exact AN rfl (.cons_ (rvJ Ae rfl) .nil_)):p:=h
theorem CQ (t u:Bool) (y:Bk) (vals:List Iq) (k:Nat) {i:Nat} {p:Iq} (hk:y.args[k]?=some (i:Int)) (hp:vals[i]?=some p) (ha:y.args.length≤1000000) (hv:vals.length≤1000000):CV prog An 171 [aI (k:Int),.one (.ptr true [.row u 6 vals.length (Ar (dIw false) vals)]),.one (.ptr true (dBk t y))] [aIw false p]:=by
 refine cvz func171 ntmps171 ?_
 have l1:=(gS.1 hk).1
 have l2:=(gS.1 hp).1
 repeat' (with_reducible first|refine qq ?_|(refine Tx 0 ?_;refine gN (xAl Am) ?_)|(refine AE (id:=1) 8 AJ (by kernel_rfl) ?_;dsimp only [List.take,List.drop];refine gP xD <| gP xF <| gP xD <| gP xM <| gP (by first|exact xIr Aa (AF hk)|exact xIr Aa (GZ hp)) <| gP xD <| gP (xIr Ah (GZ hp)) <| gP xL ?_;refine Ke ?_;refine gZ (xSk Ae) ?_))
 exact GG
theorem Rh (k:p') (h:Hd9 p'→p:=by with_reducible first|(intro Z9;refine qq ?_;exact Z9.o)|(intro Z9;refine Tx 0 ?_;refine gN xBo <| gN xBo <| gN xBo <| gN (xAl Am) ?_;exact Z9.o)|(intro Z9;refine Tx 1 ?_;refine gO (by first|exact xMf [(2,0,none),(1,0,none)]|exact CD rfl (by repeat' first|exact BM rfl rfl|refine AX rfl rfl rfl ?_)) <| gO xA ?_;exact Z9.o)|(intro Z9;refine Tx 2 ?_;refine gO xF <| gO xD ?_;exact Z9.o)|(intro Z9;refine Tx 3 ?_;refine gO xEq <| gO xA ?_;exact Z9.o)|fail):p:=h ⟨k⟩
theorem RP (k:p') (h:Hd9 p'→p:=by with_reducible first|(intro Z9;refine Tx 6 ?_;refine gO xEq <| gO xA ?_;exact Z9.o)|fail):p:=h ⟨k⟩
theorem Asu (h:p:=by first|exact xCl func172 (RV)|exact xCl func172 (RU)):p:=h
theorem AbW (t:Bool) (ps:List Prt) (bs:List Bk) (os:List Int) (y:Bk) (vals l:List Iq) (hk:y.kind=0∨y.kind=1∨y.kind=3∨y.kind=4∨y.kind=5∨y.kind=6∨y.kind=7∨y.kind=8∨y.kind=9∨y.kind=10∨y.kind=11) (ha:y.args.length≤1000000) (hvl:vals.length≤1000000) (hpl:ps.length≤1000000)
  (hl:∀ k:Nat,(k=0∧y.kind≠0∧y.kind≠1∨k=1∧(y.kind=3∨y.kind=4∨y.kind=7∨y.kind=8∨y.kind=9))→∃ p i,l[k]?=some p∧y.args[k]?=some ((i:Nat):Int)∧vals[i]?=some p) (hs:∀ p∈l,IwS p 20000 20000)
  (hin:y.kind=0→∃ (i:Nat) (pp:Prt),y.args[0]?=some (i:Int)∧ps[i]?=some pp∧UM pp)
  (hsv:(y.kind=1∨y.kind=6∨y.kind=11)→DA y.vn y.ve) (hsu:y.kind=11→DA y.un y.ue) (hcl:y.kind=11→Oz (Ac y.vn 0 y.ve) (Ac y.un 0 y.ue)≤0):CV prog An 86 [aDg t ps bs os,.agg (dBk t y),.one (.row true 6 vals.length (Ar (dIw false) vals))] [aIw false (Bx y l ps)]:=by
 refine cvz func86 ntmps86 ?_
 rcases hk with h|h|h|h|h|h|h|h|h|h|h
 ·
  obtain ⟨i0,pp,q0,w0,ps0⟩:=hin h
  have l1:=(gS.1 q0).1
  have l3:=(gS.1 w0).1
  have f0:=ps0.l0
  have f1:=ps0.le
  have f2:=ps0.h1
  have f3:=ps0.f0
  have f4:=ps0.f1
  have IN:=WX pp.lo pp.hi (by omega) (by omega)
  have OF:=Fg 1 (by decide) (by decide)
  have SH:=Bj 1 0 (-pp.fr) ⟨by decide,fun h=>absurd rfl h⟩ (lT (AC (k:=2) (by decide)) (by decide)) (by omega)
  have SC:=IZ (DJ [(pp.lo,0),(pp.hi,0)]) (Ac 1 0 (-pp.fr)) (Im (LW pp.lo (by omega) (by decide)) (LW pp.hi (by omega) (by decide))).2.2 ((UQ (by decide) (by decide) f3 f4).more (by decide) (by decide))
  rw [ps0.scale] at SC
  have hb:Bx y l ps=Rf pp:=by unfold Bx;rw [if_pos h,q0];simp [w0]
  rw [hb]
  repeat' (with_reducible first|refine Rh ?_|(refine AE (id:=4) 9 AJ (by kernel_rfl) ?_;dsimp only [List.take,List.drop];refine gP xF <| gP xD <| gP xF <| gP xD <| gP (xIr Aa (AF q0)) <| gP xD <| gP (xIr BG (Gz w0)) <| gP xL <| gQ (xAl Qo) ?_;refine Ke ?_;refine gZ (xSk Ny) ?_)|(refine AE (id:=5) 11 AJ (by kernel_rfl) ?_;dsimp only [List.take,List.drop];refine gP xF <| gP xD <| gP xF <| gP xD <| gP (xCl func133 (IN)) <| gP (xCl func123 (OF)) <| gP xF <| gP xD <| gP (by first|exact TG rfl rfl (by omega)|exact Adv rfl rfl) <| gP (xCl func27 (SH)) <| gP (xCl func132 (SC)) ?_;refine Ke ?_;refine gZ (xSk Ae) ?_))
  exact GG
 ·
  have hv:=hsv (by omega)
  have RV:=PH y.vn y.ve hv
  have sv:=(Ho hv).more LBx LBx
  have C:=Dz (Ac y.vn 0 y.ve) sv.ok sv.lz
  have hb:Bx y l ps=((Ac y.vn 0 y.ve),(Ac y.vn 0 y.ve)):=by unfold Bx FV;simp [h]
  rw [hb]
  repeat' (with_reducible first|refine Rh ?_|refine RP ?_|(refine Tx 7 ?_;refine gO xF <| gO xL <| gO (xCl func172 (RV)) <| gO (xCl func79 (C)) <| gZ (xSk Ae) ?_))
  exact GG
 ·
  obtain ⟨p,i0,h0,q0,r0⟩:=hl 0 (by omega)
  have sp:=(hs p (gM h0))
  have A0:=CQ t true y vals 0 q0 r0 ha hvl
  obtain ⟨q,i1,h1,q1,r1⟩:=hl 1 (by omega)
  have sq:=(hs q (gM h1))
  have A1:=CQ t true y vals 1 q1 r1 ha hvl
  have C:=UH p q sp sq
  have hb:Bx y l ps=AkD p q:=by unfold Bx FV;simp [h,h0,h1]
  rw [hb]
  repeat' (with_reducible first|refine Rh ?_|refine RP ?_|(refine Tx 8 ?_;refine gO xEq <| gO xA ?_)|(refine Tx 9 ?_;refine gO xM <| gO (xCc func171 A0 (args:=[_]) rfl) <| gO xM <| gO (xCc func171 A1 (args:=[_]) rfl) <| gO (xCl func136 (C)) <| gZ (xSk Ae) ?_))
  exact GG
 ·
  obtain ⟨p,i0,h0,q0,r0⟩:=hl 0 (by omega)
  have sp:=(hs p (gM h0))
  have A0:=CQ t true y vals 0 q0 r0 ha hvl
  obtain ⟨q,i1,h1,q1,r1⟩:=hl 1 (by omega)
  have sq:=(hs q (gM h1))
  have A1:=CQ t true y vals 1 q1 r1 ha hvl
  have C:=Aap p q sp sq
  have hb:Bx y l ps=AnV p q:=by unfold Bx FV;simp [h,h0,h1]
  rw [hb]
  repeat' (with_reducible first|refine Rh ?_|refine RP ?_|(refine Tx 8 ?_;refine gO xEq <| gO xA ?_)|(refine Tx 10 ?_;refine gO xEq <| gO xA ?_)|(refine Tx 11 ?_;refine gO xM <| gO (xCc func171 A0 (args:=[_]) rfl) <| gO xM <| gO (xCc func171 A1 (args:=[_]) rfl) <| gO (xCl func137 (C)) <| gZ (xSk Ae) ?_))
  exact GG
 ·
  obtain ⟨p,i0,h0,q0,r0⟩:=hl 0 (by omega)
  have sp:=(hs p (gM h0))
  have A0:=CQ t true y vals 0 q0 r0 ha hvl
  have C:=UG p sp
  have hb:Bx y l ps=AiF p:=by unfold Bx FV;simp [h,h0]
  rw [hb]
  repeat' (with_reducible first|refine Rh ?_|refine RP ?_|(refine Tx 8 ?_;refine gO xEq <| gO xA ?_)|(refine Tx 10 ?_;refine gO xEq <| gO xA ?_)|(refine Tx 12 ?_;refine gO xEq <| gO xA ?_)|(refine Tx 14 ?_;refine gO xEq <| gO xA ?_)|(refine Tx 15 ?_;refine gO xM <| gO (xCc func171 A0 (args:=[_]) rfl) <| gO (xCl func139 (C)) <| gZ (xSk Ae) ?_))
  exact GG
 ·
  obtain ⟨p,i0,h0,q0,r0⟩:=hl 0 (by omega)
  have sp:=(hs p (gM h0))
  have A0:=CQ t true y vals 0 q0 r0 ha hvl
  have hv:=hsv (by omega)
  have RV:=PH y.vn y.ve hv
  have sv:=(Ho hv).more LBx LBx
  have C:=IZ p (Ac y.vn 0 y.ve) sp sv
  have hb:Bx y l ps=OA p (Ac y.vn 0 y.ve):=by unfold Bx FV;simp [h,h0]
  rw [hb]
  repeat' (with_reducible first|refine Rh ?_|refine RP ?_|(refine Tx 8 ?_;refine gO xEq <| gO xA ?_)|(refine Tx 10 ?_;refine gO xEq <| gO xA ?_)|(refine Tx 12 ?_;refine gO xEq <| gO xA ?_)|(refine Tx 14 ?_;refine gO xEq <| gO xA ?_)|(refine Tx 16 ?_;refine gO xEq <| gO xA ?_)|(refine Tx 18 ?_;refine gO xEq <| gO xA ?_)|(refine AE (id:=19) 6 AJ (by kernel_rfl) ?_;dsimp only [List.take,List.drop];refine gP xM <| gP (xCc func171 A0 (args:=[_]) rfl) <| gP xF <| gP xL <| gP (xCl func172 (RV)) <| gP (xCl func132 (C)) ?_;refine Ke ?_;refine gZ (xSk Ae) ?_))
  exact GG
 ·
  obtain ⟨p,i0,h0,q0,r0⟩:=hl 0 (by omega)
  have sp:=(hs p (gM h0))
  have A0:=CQ t true y vals 0 q0 r0 ha hvl
  obtain ⟨q,i1,h1,q1,r1⟩:=hl 1 (by omega)
  have sq:=(hs q (gM h1))
  have A1:=CQ t true y vals 1 q1 r1 ha hvl
  have C:=UK p q sp sq
  have hb:Bx y l ps=AkE p q:=by unfold Bx FV;simp [h,h0,h1]
  rw [hb]
  repeat' (with_reducible first|refine Rh ?_|refine RP ?_|(refine Tx 8 ?_;refine gO xEq <| gO xA ?_)|(refine Tx 10 ?_;refine gO xEq <| gO xA ?_)|(refine Tx 12 ?_;refine gO xEq <| gO xA ?_)|(refine Tx 13 ?_;refine gO xM <| gO (xCc func171 A0 (args:=[_]) rfl) <| gO xM <| gO (xCc func171 A1 (args:=[_]) rfl) <| gO (xCl func138 (C)) <| gZ (xSk Ae) ?_))
  exact GG
 ·
  obtain ⟨p,i0,h0,q0,r0⟩:=hl 0 (by omega)
  have sp:=(hs p (gM h0))
  have A0:=CQ t true y vals 0 q0 r0 ha hvl
  obtain ⟨q,i1,h1,q1,r1⟩:=hl 1 (by omega)
  have sq:=(hs q (gM h1))
  have A1:=CQ t true y vals 1 q1 r1 ha hvl
  have C:=UI p q sp sq
  have hb:Bx y l ps=AkF p q:=by unfold Bx FV;simp [h,h0,h1]
  rw [hb]
  repeat' (with_reducible first|refine Rh ?_|refine RP ?_|(refine Tx 8 ?_;refine gO xEq <| gO xA ?_)|(refine Tx 10 ?_;refine gO xEq <| gO xA ?_)|(refine Tx 12 ?_;refine gO xEq <| gO xA ?_)|(refine Tx 14 ?_;refine gO xEq <| gO xA ?_)|(refine Tx 16 ?_;refine gO xEq <| gO xA ?_)|(refine Tx 18 ?_;refine gO xEq <| gO xA ?_)|(refine Tx 20 ?_;refine gO xEq <| gO xA ?_)|(refine Tx 21 ?_;refine gO xM <| gO (xCc func171 A0 (args:=[_]) rfl) <| gO xM <| gO (xCc func171 A1 (args:=[_]) rfl) <| gO (xCl func141 (C)) <| gZ (xSk Ae) ?_))
  exact GG
 ·
  obtain ⟨p,i0,h0,q0,r0⟩:=hl 0 (by omega)
  have sp:=(hs p (gM h0))
  have A0:=CQ t true y vals 0 q0 r0 ha hvl
  obtain ⟨q,i1,h1,q1,r1⟩:=hl 1 (by omega)
  have sq:=(hs q (gM h1))
  have A1:=CQ t true y vals 1 q1 r1 ha hvl
  have C:=UJ p q sp sq
  have hb:Bx y l ps=AiG p q:=by unfold Bx FV;simp [h,h0,h1]
  rw [hb]
  repeat' (with_reducible first|refine Rh ?_|refine RP ?_|(refine Tx 8 ?_;refine gO xEq <| gO xA ?_)|(refine Tx 10 ?_;refine gO xEq <| gO xA ?_)|(refine Tx 12 ?_;refine gO xEq <| gO xA ?_)|(refine Tx 14 ?_;refine gO xEq <| gO xA ?_)|(refine Tx 16 ?_;refine gO xEq <| gO xA ?_)|(refine Tx 18 ?_;refine gO xEq <| gO xA ?_)|(refine Tx 20 ?_;refine gO xEq <| gO xA ?_)|(refine Tx 22 ?_;refine gO xEq <| gO xA ?_)|(refine Tx 23 ?_;refine gO xM <| gO (xCc func171 A0 (args:=[_]) rfl) <| gO xM <| gO (xCc func171 A1 (args:=[_]) rfl) <| gO (xCl func142 (C)) <| gZ (xSk Ae) ?_))
  exact GG
 ·
  obtain ⟨p,i0,h0,q0,r0⟩:=hl 0 (by omega)
  have sp:=(hs p (gM h0))
  have A0:=CQ t true y vals 0 q0 r0 ha hvl
  have C:=UL p sp
  have hb:Bx y l ps=YI p:=by unfold Bx FV;simp [h,h0]
  rw [hb]
  repeat' (with_reducible first|refine Rh ?_|refine RP ?_|(refine Tx 8 ?_;refine gO xEq <| gO xA ?_)|(refine Tx 10 ?_;refine gO xEq <| gO xA ?_)|(refine Tx 12 ?_;refine gO xEq <| gO xA ?_)|(refine Tx 14 ?_;refine gO xEq <| gO xA ?_)|(refine Tx 16 ?_;refine gO xEq <| gO xA ?_)|(refine Tx 17 ?_;refine gO xM <| gO (xCc func171 A0 (args:=[_]) rfl) <| gO (xCl func140 (C)) <| gZ (xSk Ae) ?_))
  exact GG
 ·
  obtain ⟨p,i0,h0,q0,r0⟩:=hl 0 (by omega)
  have sp:=(hs p (gM h0))
  have A0:=CQ t true y vals 0 q0 r0 ha hvl
  have hv:=hsv (by omega)
  have RV:=PH y.vn y.ve hv
  have sv:=(Ho hv).more LBx LBx
  have hu:=hsu h
  have RU:=PH y.un y.ue hu
  have su:=(Ho hu).more LBx LBx
  have C:=WY p (Ac y.vn 0 y.ve) (Ac y.un 0 y.ue) sp sv su (hcl h)
  have hb:Bx y l ps=YJ p (Ac y.vn 0 y.ve) (Ac y.un 0 y.ue):=by unfold Bx FV;simp [h,h0]
  rw [hb]
  repeat' (with_reducible first|refine Rh ?_|refine RP ?_|(refine Tx 8 ?_;refine gO xEq <| gO xA ?_)|(refine Tx 10 ?_;refine gO xEq <| gO xA ?_)|(refine Tx 12 ?_;refine gO xEq <| gO xA ?_)|(refine Tx 14 ?_;refine gO xEq <| gO xA ?_)|(refine Tx 16 ?_;refine gO xEq <| gO xA ?_)|(refine Tx 18 ?_;refine gO xEq <| gO xA ?_)|(refine Tx 20 ?_;refine gO xEq <| gO xA ?_)|(refine Tx 22 ?_;refine gO xEq <| gO xA ?_)|(refine FC (id:=24) 13 [(13,11)] AJ (by kernel_rfl) ?_;dsimp only [List.take,List.drop];refine gP xM <| gP (xCc func171 A0 (args:=[_]) rfl) <| gP xF <| gP xL <| gP Asu <| gP xF <| gP xL <| gP Asu <| gP (xCl func143 (C)) <| gP xMt <| gP (by exact Es rfl rfl rfl) <| gP xEx <| gQ (xAl Am) ?_;refine Ke ?_;refine gZ (xSk Ae) <| gO xA ?_)|(refine Tx 25 ?_;refine gO xL <| gZ (xSk Ae) ?_))
  exact GG
abbrev ivQ (q:Rv × Rv):Iq:=(rvP q.1,rvP q.2)
def AcQ (qs:List (Rv × Rv)):D:=.row false 6 qs.length (Ar (dIr false) qs)
def Asv (l:List Iq):A:=.one (.row false 6 l.length (Ar (dIw false) l))
abbrev ivC (q:Rv × Rv):Bool:=ivR q.1 q.2
def rgE (ps:List Prt) (bs:List Bk) (os:List Int) (qs:List (Rv × Rv)):Int :=
 if Av ps bs os≠0 then Av ps bs os else if qs.length≠(AW bs).length then 11 else if qs.all ivC=false then 2 else if Gg ps bs (qs.map ivQ)=true then 4 else 0
section
variable {ps:List Prt} {bs:List Bk} {os:List Int} {qs:List (Rv × Rv)}
theorem rgE1 (h:Av ps bs os≠0):rgE ps bs os qs=Av ps bs os:=by unfold rgE;rw [if_pos h]
theorem rgE2 (h:Av ps bs os=0) (h2:qs.length≠(AW bs).length):rgE ps bs os qs=11:=by unfold rgE;rw [if_neg (not_not_intro h),if_pos h2]
theorem rgE3 (h:Av ps bs os=0) (h2:qs.length=(AW bs).length) (h3:qs.all ivC=false):rgE ps bs os qs=2:=by unfold rgE;rw [if_neg (not_not_intro h),if_neg (not_not_intro h2),if_pos h3]
theorem rgE4 (h:Av ps bs os=0) (h2:qs.length=(AW bs).length) (h3:¬ qs.all ivC=false):rgE ps bs os qs=if Gg ps bs (qs.map ivQ)=true then 4 else 0:=by unfold rgE;rw [if_neg (not_not_intro h),if_neg (not_not_intro h2),if_neg h3]
end
theorem Xe {qs:List (Rv × Rv)} {k:Nat} (h:qs[k]?=some q):((Ar (dIr false) qs).drop (k*6)).take 6=dIr false q:=EO (f:=dIr false) (s:=6) (fun _=>rfl) h
theorem AkN (hr:RvL q.1) (hs:RvL q.2) (h:ivC q=true):IwS (ivQ q) 1280000 65536∧dIr false q=dIw false (ivQ q)∧(Ad (rvP q.1).1.natAbs).length≤40000∧(Ad (rvP q.2).1.natAbs).length≤40000:=by
 obtain ⟨e,n1,n2,g,k1,k2⟩:=Asp hr hs h
 exact ⟨⟨UF (p:=rvP q.1) n1 (k:=40000) (k1 ▸ hr.2) (by decide),UF (p:=rvP q.2) n2 (k:=40000) (k2 ▸ hs.2) (by decide),g⟩,e,k1 ▸ hr.2,k2 ▸ hs.2⟩
theorem YO (hr:RvB q.1) (hs:RvB q.2) (h:ivC q=true):(∃ n,IwS (ivQ q) n 65536)∧dIr false q=dIw false (ivQ q)∧(Ad (rvP q.1).1.natAbs).length≤35184372087808∧(Ad (rvP q.2).1.natAbs).length≤35184372087808:=by
 obtain ⟨e,n1,n2,g,k1,k2⟩:=Afs hr.1 hs.1 h
 exact ⟨⟨32*max q.1.ws.length q.2.ws.length,UF (p:=rvP q.1) n1 (k:=q.1.ws.length) (dp k1) (by omega),UF (p:=rvP q.2) n2 (k:=q.2.ws.length) (dp k2) (by omega),g⟩,e,k1 ▸ hr.2,k2 ▸ hs.2⟩
theorem Aoq {qs:List (Rv × Rv)} {k:Nat} (h:qs[k]?=some q) (hv:ivC q=false):qs.all ivC=false:=by
 rw [mb]
 exact ⟨q,gM h,by rw [hv];decide⟩
theorem Afz {d:Nat} (h:IwS a n d):LU a a=a:=by
 obtain ⟨e1,e2,e3⟩:=GE h.s1 h.s2 h.s1 h.s2
 have hle:=h.le
 exact AkK e3 h (by show gv (DJ [a.1,a.2,a.1,a.2]).1=_;rw [e1];omega) (by show gv (DJ [a.1,a.2,a.1,a.2]).2=_;rw [e2];omega)
theorem Aor (k:p') (h:Hd9 p'→p:=by with_reducible first|(intro Z9;refine Tx 0 ?_;refine gN xBo <| gO xA <| gO xA ?_;exact Z9.o)|(intro Z9;refine Tx 1 ?_;refine gO xL <| gO (xCl func36 (DL)) <| gO xMt <| gO xEx <| gO xEx <| gO xA <| gO xA ?_;exact Z9.o)|(intro Z9;refine Tx 2 ?_;refine gO xM <| gO (xNE Ag) ?_;exact Z9.o)|fail):p:=h ⟨k⟩
theorem AiV (h:p:=by first|exact xIr Ah (hra)|exact xIo (i:=i) Ah):p:=h
theorem Asw (k:p') (h:Hd9 p'→p:=by with_reducible first|(intro Z9;refine Tx 18 ?_;refine gO xM <| gO (by first|exact xIr Aa (AF (Ij hi))|exact xIr Aa (hra)|exact xIo (i:=i) Aa) <| gO xD <| gO xA <| gO xA ?_;exact Z9.o)|(intro Z9;refine Tx 19 ?_;refine gO xM <| gO xM <| gO AiV <| gO xL <| gO (xCl func85 (LG)) ?_;exact Z9.o)|fail):p:=h ⟨k⟩
theorem Aos (h:p:=by first|exact Aom rfl rfl rfl rfl Ae tl stV|exact xSk Ae):p:=h
theorem Asx (k:p') (h:Hd9 p'→p:=by with_reducible first|(intro Z9;refine Tx 25 ?_;refine gO (by first|exact xIr Aa (AF (Ij hj))|exact xIo (i:=j) Aa) <| gO xD <| gO xA ?_;exact Z9.o)|(intro Z9;refine AE (id:=26) 11 AJ (by kernel_rfl) ?_;dsimp only [List.take,List.drop];refine gP xM <| gP xM <| gP xL <| gP xF <| gP xD <| gP xM <| gP (by first|exact xIr Ap (Gc hy)|exact xIo (i:=j) Ap) <| gP xL <| gP xM <| gP (xCl func86 BL (ha:=by with_unfolding_all first|((repeat' first|exact BM rfl rfl|refine AX rfl rfl ?_ ?_|refine FH rfl rfl ?_|refine Dt rfl rfl ?_|exact Bp rfl (fun h=>by cases h)|exact Afv rfl rfl rfl) <;> fail)|fail)) <| gP (xIo (i:=j) Ah) ?_;refine Ke ?_;refine gZ Aos ?_;exact Z9.o)|(intro Z9;refine Tx 27 ?_;refine gO xM <| gO xM <| gO (xIo (i:=j) Ah) <| gO (by first|exact Aol rfl rfl rfl hat Ae|exact xLa Ae) <| gO (xCl func85 (LG)) ?_;exact Z9.o)|fail):p:=h ⟨k⟩
theorem Ri (h:p:=by
 exact AN rfl (.cons_ (.tmp (.one (FI rfl rfl))) (.cons_ (AbC rfl (by decide) rfl) .nil_))):p:=h
theorem AbX (h:p:=by first|exact xNt|exact xNg):p:=h
theorem Xf (t:Bool) {ps:List Prt} {bs:List Bk} {os:List Int} (hl:EF ps bs os) (qs:List (Rv × Rv)) (hw:∀ q∈qs,RvL q.1∧RvL q.2) (hrl:qs.length≤1000000):CV prog An 38 [aDg t ps bs os,.one (AcQ qs)] [Asv (okQ (rgE ps bs os qs) (rgV ps bs (qs.map ivQ))),aE (rgE ps bs os qs)]:=by
 refine cvz func38 ntmps38 ?_
 have DL:=(Ih t hl (ps:=ps) (bs:=bs) (os:=os)).cv
 have OL:=(PD t hl (ps:=ps) (bs:=bs) (os:=os)).cv
 have hnl:=Cb (AW bs)
 have hol:=Cb (Bb bs)
 have hl1:=hl.l1
 have hl2:=hl.l2
 have hl3:=hl.l3
 have hob:=Up (bs:=bs)
 have hdb:=NY bs
 by_cases h0:Av ps bs os=0
 case neg =>
  rw [if_neg h0] at DL
  have hE:=rgE1 (qs:=qs) h0
  rw [hE,Ed h0]
  repeat' (with_reducible first|refine qq ?_|refine Aor ?_|(refine Tx 3 ?_;refine gO xM <| gO xA <| gO xA ?_))
  exact AN rfl (.cons_ (.tmp (.one (FI rfl rfl))) (.cons_ (AcN rfl rfl) .nil_))
 rw [if_pos h0,h0] at DL
 rw [if_pos h0,h0] at OL
 by_cases hL:qs.length=(AW bs).length
 case neg =>
  have hE:=rgE2 (os:=os) h0 hL
  rw [hE,Ed (by decide)]
  repeat' (with_reducible first|refine qq ?_|refine Aor ?_|(refine Tx 4 ?_;refine gO xM <| gO xN <| gO xM <| gO xN <| gO xNe ?_)|(refine Tx 5 ?_;refine gO (xMi underlying85) <| gO xA <| gO xA ?_))
  exact Ri
 repeat' (with_reducible first|refine qq ?_|refine Aor ?_|(refine Tx 4 ?_;refine gO xM <| gO xN <| gO xM <| gO xN <| gO xNe ?_)|(refine Tx 6 ?_;refine gO xM <| gO xN <| gO xM ?_))
 refine AY (Bz 1) (Aq (fun n Fr H=>∃ k:Nat,k≤qs.length∧n=qs.length - k∧(∀ q∈qs.take k,ivC q=true)∧Fr=ofL [(1,vd (AcQ qs)),(2,vr 0),(6,vd (AM false (Br (AW bs)))),(30,vd (AcQ qs)),(31,vi qs.length),(32,vi ((k:Nat)))]∧H=[.box 26 [.d (CU t ps),.d (Dw t bs),.d (AM t os)]]) (n0:=qs.length) ⟨0,af _,rfl,(fun r hr=>by simp at hr),rfl,rfl⟩ ?_)
 rintro n Fr H ⟨k,hk,rfl,hv,rfl,rfl⟩
 by_cases hlt:k<qs.length
 case pos =>
  obtain ⟨q,hq⟩:∃ q,qs[k]?=some q:=⟨_,gE hlt⟩
  have hqm:=hw q (gM hq)
  have VA:CV prog An 57 [.agg (dIr false q)] [aB (ivC q)]:=Oa q.1 q.2 hqm.1 hqm.2
  cases hb:ivC q
  case false =>
   rw [hb] at VA
   have hE:=rgE3 (os:=os) h0 hL (Aoq hq hb)
   rw [hE,Ed (by decide)]
   repeat' (with_reducible first|refine qq ?_|(refine Tx 7 ?_;refine gO xLt ?_)|(refine Tx 8 ?_;refine gO (xIr Ah (Xe hq)) <| gO xL <| gN (xAl Am) <| gZ (xSk Ae) ?_)|(refine Tx 9 ?_;refine gO xL <| gO (xCl func57 (VA)) <| gO AbX ?_)|(refine Tx 10 ?_;refine gO (xMi underlying85) <| gO xA <| gO xA ?_))
   exact Ri
  case true =>
   rw [hb] at VA
   repeat' (with_reducible first|refine qq ?_|(refine Tx 7 ?_;refine gO xLt ?_)|(refine Tx 8 ?_;refine gO (xIr Ah (Xe hq)) <| gO xL <| gN (xAl Am) <| gZ (xSk Ae) ?_)|(refine Tx 9 ?_;refine gO xL <| gO (xCl func57 (VA)) <| gO AbX ?_)|(refine Tx 11 ?_;refine gO xAd <| gO xM ?_))
   refine ⟨_,_,Bz 1,_,?_,k+1,by omega,rfl,Ev hv hq hb,rfl,rfl⟩
   ·omega
 obtain rfl:k=qs.length:=by omega
 rw [az] at hv
 clear hlt hk
 have hva:¬ qs.all ivC=false:=by rw [jm];exact List.all_eq_true.2 hv
 have hE:=rgE4 (os:=os) h0 hL hva
 have hsl:(qs.map ivQ).length=(AW bs).length:=by rw [ad];exact hL
 repeat' (with_reducible first|refine qq ?_|(refine Tx 7 ?_;refine gO xLt ?_)|(refine Tx 12 ?_;refine gO xL <| gO (xCl func35 (OL)) <| gO xMt <| gO xEx <| gO xEx <| gO xA <| gO xA ?_)|(refine Tx 13 ?_;refine gO xM <| gO (xNE Ag) ?_)|(refine Tx 15 ?_;refine gO xF <| gO xD <| gO xN <| gN (by first|exact WZ (n:=bs.length) rfl rfl rfl Ah Am (by omega) (by decide)|exact Bo rfl rfl rfl Ah Am (by omega) (by decide)) <| gO xA ?_)|(refine Tx 16 ?_;refine gO xM <| gO xN <| gO xM ?_))
 refine AY (Bz 2 (h:=by rw [←hnl];exact mB rfl rfl)) (Aq (fun n Fr H=>∃ k:Nat,k≤(AW bs).length∧n=(AW bs).length - k∧(∀ p∈(qs.map ivQ).take k,Hn p=false)∧Fr=ofL [(1,vd (AcQ qs)),(2,vr 0),(6,vd (AM false (Br (AW bs)))),(10,vd (AM false (Br (Bb bs)))),(11,vo 1 bs.length),(53,vd (AM false (Br (AW bs)))),(54,vi ((AW bs).length)),(55,vi ((k:Nat)))]∧H=[.box 26 [.d (CU t ps),.d (Dw t bs),.d (AM t os)],.row 45 6 bs.length (kWs (AbV ((AW bs).take (k)) ((qs.map ivQ).take (k)) (List.replicate bs.length none)))]) (n0:=(AW bs).length) ⟨0,af _,rfl,(fun r hr=>by simp at hr),rfl,rfl⟩ ?_)
 rintro n Fr H ⟨k,hk,rfl,hnl2,rfl,rfl⟩
 by_cases hlt:k<(AW bs).length
 case pos =>
  obtain ⟨i,hi⟩:∃ i,(AW bs)[k]?=some i:=⟨_,gE hlt⟩
  obtain ⟨q,hq⟩:∃ q,qs[k]?=some q:=⟨_,gE (by omega)⟩
  have hqm:=gM hq
  obtain ⟨sw,hdy,lw1,lw2⟩:=AkN (hw q hqm).1 (hw q hqm).2 (hv q hqm)
  have hst:(qs.map ivQ)[k]?=some (ivQ q):=by rw [ag,hq];rfl
  have hra:=Xe hq
  rw [hdy] at hra
  have hil2:=(FS hi).1
  have LG:=Xd (ivQ q) sw.s1.ok sw.s2.ok lw1 lw2
  by_cases hlg:Hn (ivQ q)=true
  case pos =>
   rw [hlg] at LG
   rw [AiR hst hlg,if_pos rfl] at hE
   rw [hE,Ed (by decide)]
   repeat' (with_reducible first|refine qq ?_|(refine Tx 17 ?_;refine gO xLt ?_)|refine Asw ?_|(refine Tx 20 ?_;refine gO (xMi underlying85) <| gO xA <| gO xA ?_))
   exact Ri
  rw [ci] at hlg
  rw [hlg] at LG
  have sb:=(Tg sw hlg)
  have sb2:=sb.more LBx LBx
  have HU:=Rd (ivQ q) (ivQ q) sb2 sb2
  rw [Afz sb] at HU
  have tl:i<(AbV ((AW bs).take (k)) ((qs.map ivQ).take (k)) (List.replicate bs.length none)).length:=by rw [PG,dz];exact hil2
  have stV:(AbV ((AW bs).take (k)) ((qs.map ivQ).take (k)) (List.replicate bs.length none)).set i (some (ivQ q))=(AbV ((AW bs).take (k+1)) ((qs.map ivQ).take (k+1)) (List.replicate bs.length none)):=(Xb _ hi hst).symm
  repeat' (with_reducible first|refine qq ?_|(refine Tx 17 ?_;refine gO xLt ?_)|refine Asw ?_|(refine AE (id:=21) 12 AJ (by kernel_rfl) ?_;dsimp only [List.take,List.drop];refine gP xM <| gP xM <| gP xM <| gP xM <| gP AiV <| gP xL <| gP xM <| gP xM <| gP AiV <| gP xL <| gP (xCl func82 (HU)) <| gP AiV ?_;refine Ke ?_;refine gZ Aos ?_)|(refine Tx 22 ?_;refine gO xAd <| gO xM ?_))
  refine ⟨_,_,Bz 2,_,by omega,k+1,by omega,rfl,Ev hnl2 hst hlg,rfl,rfl⟩
 obtain rfl:k=(AW bs).length:=by omega
 clear hlt hk
 rw [am (by omega)] at hnl2
 have HD:=Aas (bs:=bs) (st:=(qs.map ivQ)) (fun p hp=>by obtain ⟨q,hq,rfl⟩:=List.mem_map.1 hp;exact Tg (AkN (hw q hq).1 (hw q hq).2 (hv q hq)).1 (hnl2 _ hp)) hsl
 rw [←Aoo ps bs (qs.map ivQ)] at HD
 rw [az,am (l:=(qs.map ivQ)) (by omega),←Aoo ps bs (qs.map ivQ)]
 repeat' (with_reducible first|refine qq ?_|(refine Tx 17 ?_;refine gO xLt ?_)|(refine Tx 23 ?_;refine gO xM <| gO xN <| gO xM ?_))
 refine AY (Bz 2 (h:=by rw [←hol];exact mB rfl rfl)) (Aq (fun n Fr H=>∃ k:Nat,k≤(Bb bs).length∧n=(Bb bs).length - k∧Afx (rgS ps bs (qs.map ivQ) (k)) (SW bs k)∧(∀ s,s<k→Hn (rgN ps bs (qs.map ivQ) s)=false)∧Fr=ofL [(1,vd (AcQ qs)),(2,vr 0),(6,vd (AM false (Br (AW bs)))),(10,vd (AM false (Br (Bb bs)))),(11,vo 1 bs.length),(79,vd (AM false (Br (Bb bs)))),(80,vi ((Bb bs).length)),(81,vi ((k:Nat)))]∧H=[.box 26 [.d (CU t ps),.d (Dw t bs),.d (AM t os)],.row 45 6 bs.length (kWs (rgS ps bs (qs.map ivQ) (k)))]) (n0:=(Bb bs).length) ⟨0,af _,rfl,HD,(fun s hs=>absurd hs (fm s)),rfl,rfl⟩ ?_)
 rintro n Fr H ⟨k,hk,rfl,HK,hgd,rfl,rfl⟩
 by_cases hlt:k<(Bb bs).length
 case pos =>
  obtain ⟨j,hj⟩:∃ j,(Bb bs)[k]?=some j:=⟨_,gE hlt⟩
  obtain ⟨y,hy,hk2,T⟩:=Aat h0 hj HK
  have hjl:=(FP hj).1
  have hvn:rgN ps bs (qs.map ivQ) k=Bx y (Oc (rgS ps bs (qs.map ivQ) (k)) y) ps:=by unfold rgN tkW;rw [hj];simp only [bg];rw [hy]
  have hgl:(gW (rgS ps bs (qs.map ivQ) (k))).length=bs.length:=by rw [Afu,Rg]
  have BL:=AbW t ps bs os y (gW (rgS ps bs (qs.map ivQ) (k))) (Oc (rgS ps bs (qs.map ivQ) (k)) y) T.hk (by have:=T.len;omega) (by omega) (by omega) T.hl (fun p hp=>(T.hs p hp).more (by decide) (by decide)) T.hin T.hsv T.hsu T.hcl
  have TS:=T.sm
  rw [←hvn] at BL TS
  rw [hgl] at BL
  have LG:=Xd (rgN ps bs (qs.map ivQ) k) TS.s1.ok TS.s2.ok TS.s1.lz TS.s2.lz
  have tl:j<(rgS ps bs (qs.map ivQ) (k)).length:=by rw [Rg];exact hjl
  have stV:(rgS ps bs (qs.map ivQ) (k)).set j (some (rgN ps bs (qs.map ivQ) k))=(rgS ps bs (qs.map ivQ) (k+1)):=(Aar hj).symm
  have hbad:=AiS (ps:=ps) (st:=(qs.map ivQ)) hlt
  have hnx:=Xc HK hj
  have hat:(rgS ps bs (qs.map ivQ) (k+1))[j]?=some (some (rgN ps bs (qs.map ivQ) k)):=by rw [←stV,bu,if_pos rfl,if_pos tl]
  by_cases hlg:Hn (rgN ps bs (qs.map ivQ) k)=true
  case pos =>
   rw [hlg] at LG
   rw [hbad hlg,if_pos rfl] at hE
   rw [hE,Ed (by decide)]
   repeat' (with_reducible first|refine qq ?_|(refine Tx 24 ?_;refine gO xLt ?_)|refine Asx ?_|(refine Tx 28 ?_;refine gO (xMi underlying85) <| gO xA <| gO xA ?_))
   exact Ri
  rw [ci] at hlg
  rw [hlg] at LG
  repeat' (with_reducible first|refine qq ?_|(refine Tx 24 ?_;refine gO xLt ?_)|refine Asx ?_|(refine Tx 29 ?_;refine gO xAd <| gO xM ?_))
  refine ⟨_,_,Bz 2,_,by omega,k+1,by omega,rfl,hnx (Tg TS hlg),Ut hgd hlg,rfl,rfl⟩
 obtain rfl:k=(Bb bs).length:=by omega
 clear hlt hk
 rw [AiT hnl2 hgd,if_neg (by decide)] at hE
 rw [hE,NW rfl]
 have hvE:(rgV ps bs (qs.map ivQ)).length=bs.length:=by unfold rgV;rw [Afu,Rg]
 unfold Asv
 rw [hvE]
 repeat' (with_reducible first|refine qq ?_|(refine Tx 24 ?_;refine gO xLt ?_)|(refine Tx 30 ?_;refine gO xM <| gO xA <| gO xA ?_))
 exact AN rfl (.cons_ (.tmp (.one (Afv rfl rfl rfl))) (.cons_ (Fv rfl rfl) .nil_))
section
variable {ps:List Prt} {bs:List Bk} {os:List Int} {qs:List (Rv × Rv)} {st:List Iq}
theorem AfA (h:Gg ps bs st=false):(∀ p∈st,Hn p=false)∧∀ t,t<(Bb bs).length→Hn (rgN ps bs st t)=false:=by
 unfold Gg at h
 rw [je] at h
 exact ⟨fun p hp=>by have:=List.any_eq_false.1 h.1 p hp;rwa [ci] at this,fun t ht=>by have:=List.any_eq_false.1 h.2 t (List.mem_range.2 ht);rwa [ci] at this⟩
theorem Asy (hj:(Bb bs)[t]?=some j) (hy:bs[j]?=some y):rgN ps bs st t=Bx y (Oc (rgS ps bs st t) y) ps:=by
 unfold rgN tkW
 rw [hj]
 simp only [bg]
 rw [hy]
theorem Aot (he:Av ps bs os=0) (hst:∀ p∈st,IwS p LB LB) (hl:st.length=(AW bs).length) (hb:Gg ps bs st=false):∀ t,t≤(Bb bs).length→Afx (rgS ps bs st t) (SW bs t):=fun t=>by
 induction t with
 | zero=>intro _;rw [Aoo];exact Aas hst hl
 | succ t ih =>
  intro ht
  obtain ⟨j,hj⟩:∃ j,(Bb bs)[t]?=some j:=⟨_,gE ht⟩
  have h:=ih (by omega)
  obtain ⟨y,hy,_,T⟩:=Aat he hj h
  have TS:=T.sm
  rw [←Asy hj hy] at TS
  exact Xc h hj (Tg TS ((AfA hb).2 t ht))
theorem AfB (he:Av ps bs os=0) (hst:∀ p∈st,IwS p LB LB) (hl:st.length=(AW bs).length) (hb:Gg ps bs st=false) {i:Nat} (hi:i<bs.length):∃ p,(rgV ps bs st)[i]?=some p∧(rgS ps bs st (Bb bs).length)[i]?=some (some p)∧IwS p LB LB:=by
 obtain ⟨p,hp,hs⟩:=AiU he (Aot he hst hl hb _ (aa _)) hi
 exact ⟨p,Asr hp,hp,hs⟩
theorem YP:(rgV ps bs st).length=bs.length:=by unfold rgV;rw [Afu,Rg]
end
def clOk (ps:List Prt) (bs:List Bk) (st:List Iq) (k:Nat):Bool :=
 iIn ((AO bs)[k]?.getD (0,0),(AO bs)[k]?.getD (0,0)) (st[k]?.getD iZ) && iIn ((rgV ps bs st)[ApR bs ((AW bs)[k]?.getD 0)]?.getD iZ) (st[k]?.getD iZ)
def Asz (ps:List Prt) (bs:List Bk) (st:List Iq):Bool:=(List.range (AW bs).length).all (clOk ps bs st)
abbrev pw (k:Int):Pq:=Ac 1 0 k
theorem AbY {k:Int} (h0 : -(n:Int)≤k) (h1:k≤n) (hn:n≤65536):Sm (pw k) (n+1) n:=by
 unfold pw Ac
 split
 ·exact (Sm.mk_nf (m:=1) (n:=n+1) (d:=n) (p:=0+(-(max (-65536) (min k 65536))).toNat) (by omega) (by omega) (Nat.one_lt_two_pow (by omega)))
 ·refine (Sm.mk_nf (n:=n+1) (d:=n) (p:=0) (by omega) (by omega) ?_)
  rw [Int.one_mul,fx]
  exact Nat.pow_lt_pow_right (by decide) (by omega)
theorem Rj {k:Int} (h0 : -65536≤k) (h1:k≤65536):gv (pw k)=2 ^ (65536+k).toNat:=by
 by_cases hk:0≤k
 ·have:=WL (p:=(1,0)) (n:=k.toNat) (af _) (by omega)
  rw [show ((k.toNat:Nat):Int)=k by omega,Tc,Int.one_mul,←bi] at this
  rw [show gv (pw k)=_ from this]
  congr 1
  show 65536+k.toNat=_
  omega
 ·have:=WM (p:=(1,0)) (n:=(-k).toNat) (by show 0+(-k).toNat≤65536;omega) (by omega)
  rw [show (-(((-k).toNat:Nat):Int))=k by omega,Tc,Int.one_mul] at this
  refine kw (jf (Bv (-k).toNat)) ?_
  rw [this,←bi]
  congr 1
  show 65536=_
  omega
def upK (x:Pq):Int:=(Bl x.1.natAbs:Int) - 1 - x.2
def upP (x:Pq):Pq:=if x.1=0 then x else if x.1<0 then (if upK x < -30 then (0,0) else MI (pw (upK x))) else pw (max (if Oz (pw (upK x)) x<0 then upK x+1 else upK x) (-30))
theorem Th (h:p:=by
 exact AN rfl (.cons_ (rvW Ab rfl) .nil_)):p:=h
theorem PI (k:Int) (h0 : -65536≤k) (h1:k≤65536):CV prog An 167 [aI k] [aDy false (pw k).1 (pw k).2]:=by
 refine cvz func167 ntmps167 ?_
 have OF:=Fg 1 (by decide) (by decide)
 have SH:=Bj 1 0 k ⟨by decide,fun h=>absurd rfl h⟩ (lT (AC (k:=2) (by decide)) (by decide)) (by omega)
 repeat' (with_reducible first|refine qq ?_|(refine Tx 0 ?_;refine gN (xAl Ak) ?_)|(refine Tx 1 ?_;refine gO (xCl func123 (OF)) <| gO xM <| gO (xCl func27 (SH)) <| gZ (xSk Ab) ?_))
 exact Th
def YQ (a:Iq):Bool:=decide (0<Oz (Lo a) (pw 40))
theorem Aau (a:Iq) (h:IwS a 20000 20000):CV prog An 80 [aIw false a] [aB (YQ a)]:=by
 refine cvz func80 ntmps80 ?_
 have MG:=MP a h
 have hm:=h.abs.s2
 have PW:=PI 40 (by decide) (by decide)
 have hp:=AbY (k:=40) (n:=40) (by decide) (by decide) (by decide)
 have CM:=(Ck (Lo a).1 (Lo a).2 (pw 40).1 (pw 40).2 hm.ok hp.ok hm.lz hp.lz)
 have hf:decide (0<Oz (Lo a) (pw 40))=YQ a:=rfl
 repeat' (with_reducible first|refine qq ?_|(refine Tx 0 ?_;refine gN xBo <| gO xA ?_)|(refine Tx 1 ?_;refine gO xL <| gO (xCl func151 (MG)) <| gO (xCl func167 (PW)) <| gO (xCl func9 (CM)) <| gO (by first|exact TM rfl rfl rfl hf|exact xGt) <| gO xA ?_))
 exact AN rfl (.cons_ (GI rfl rfl) .nil_)
def P2 (j:Nat):Int:=2 ^ (65506+j)
def inU (z:Int):Prop:=z=0∨∃ j:Nat,z=P2 j∨z = -P2 j
theorem Aou {x:Pq} (h0:x.1≠0):1≤Bl x.1.natAbs∧2 ^ (Bl x.1.natAbs - 1)≤x.1.natAbs∧x.1.natAbs<2 ^ Bl x.1.natAbs:=by
 have h1:1≤Bl x.1.natAbs:=Nat.one_le_iff_ne_zero.2 fun hc=>by
  have:Bl x.1.natAbs≤0:=by omega
  have:=CZ.1 this
  omega
 refine ⟨h1,Nat.not_lt.1 fun hc=>?_,CZ.1 (aa _)⟩
 have:=CZ.2 hc
 omega
theorem AuY {x:Pq} (h:Sm x n n) (hn:n≤65000) (h30:30≤n):Sm (upP x) (n+2) (n+1)∧gv x≤gv (upP x)∧inU (gv (upP x)):=by
 by_cases h0:x.1=0
 ·exact ⟨by unfold upP;rw [if_pos h0];exact h.more (by omega) (by omega),by unfold upP;rw [if_pos h0];exact dh _,by unfold upP gv;rw [if_pos h0,h0,Int.zero_mul];exact .inl rfl⟩
 ·obtain ⟨b1,b2,b3⟩:=Aou h0
  have bn:Bl x.1.natAbs≤n:=CZ.2 h.n
  have hd:=h.d
  have hk:upK x=(Bl x.1.natAbs:Int) - 1 - x.2:=rfl
  have ex:gv x=x.1*2 ^ (GQ - x.2):=rfl
  have hG:GQ=65536:=rfl
  have pk:gv (pw (upK x))=2 ^ (Bl x.1.natAbs - 1)*2 ^ (GQ - x.2):=by rw [Rj (by omega) (by omega),←bi];congr 1;omega
  have pk1:gv (pw (upK x+1))=2 ^ Bl x.1.natAbs*2 ^ (GQ - x.2):=by rw [Rj (by omega) (by omega),←bi];congr 1;omega
  have grid:∀ k:Int,-30≤k→k≤65536→gv (pw k)=P2 (k+30).toNat:=fun k k0 k1=>by rw [Rj (by omega) k1];unfold P2;congr 1;omega
  have p0:=Bv (GQ - x.2)
  have c2:((2 ^ (Bl x.1.natAbs - 1):Nat):Int)=2 ^ (Bl x.1.natAbs - 1):=Int.natCast_pow ..
  have c3:((2 ^ Bl x.1.natAbs:Nat):Int)=2 ^ Bl x.1.natAbs:=Int.natCast_pow ..
  unfold upP
  rw [if_neg h0]
  by_cases h1:x.1<0
  ·rw [if_pos h1]
   by_cases h2:upK x < -30
   ·rw [if_pos h2]
    refine ⟨Sm.zero _ _,?_,by rw [LS];exact .inl rfl⟩
    rw [LS,ex]
    exact Int.mul_nonpos_of_nonpos_of_nonneg (ck h1) (ck p0)
   ·rw [if_neg h2]
    refine ⟨((AbY (n:=n) (by omega) (by omega) (by omega)).neg).more (by omega) (by omega),?_,?_⟩
    ·rw [Ln,pk,ex,←ej]
     exact fq (by omega) (ck p0)
    ·rw [Ln,grid _ (by omega) (by omega)];exact .inr ⟨_,.inr rfl⟩
  ·rw [if_neg h1]
   have key:∀ k':Int,gv x≤gv (pw k')→k'≤n → -65536≤k'→Sm (pw (max k' (-30))) (n+2) (n+1)∧gv x≤gv (pw (max k' (-30)))∧inU (gv (pw (max k' (-30)))):=fun k' hk' hn' hl'=>by
    refine ⟨(AbY (n:=n) (by omega) (by omega) (by omega)).more (by omega) (by omega),Int.le_trans hk' ?_,.inr ⟨_,.inl (grid _ (by omega) (by omega))⟩⟩
    rw [Rj hl' (by omega),Rj (by omega) (by omega)]
    have hle:(65536+k').toNat≤(65536+max k' (-30)).toNat:=by omega
    rw [show (65536+max k' (-30)).toNat=(65536+k').toNat+((65536+max k' (-30)).toNat - (65536+k').toNat) by omega,bi]
    have q1:=Bv (65536+k').toNat
    have q2:=Bv ((65536+max k' (-30)).toNat - (65536+k').toNat)
    have:=mh (show (1:Int)≤2 ^ ((65536+max k' (-30)).toNat - (65536+k').toNat) by omega) (ck q1)
    rwa [Int.mul_one] at this
   have sk:=AbY (k:=upK x) (n:=n) (by omega) (by omega) (by omega)
   by_cases h3:Oz (pw (upK x)) x<0
   ·rw [if_pos h3]
    refine key _ ?_ (by omega) (by omega)
    rw [pk1,ex]
    exact fq (by omega) (ck p0)
   ·rw [if_neg h3]
    exact key _ ((Aah sk.le h.le).1 (Int.not_lt.1 h3)) (by omega) (by omega)
theorem AfC (k:p') (h:Hd9 p'→p:=by with_reducible first|(intro Z9;refine qq ?_;exact Z9.o)|(intro Z9;refine Tx 0 ?_;refine gN xBo <| gN (xAl Ak) ?_;exact Z9.o)|(intro Z9;refine Tx 1 ?_;refine gO xL <| gO (xCl func28 (SG)) <| gO xEq ?_;exact Z9.o)|fail):p:=h ⟨k⟩
theorem AiW (k:p') (h:Hd9 p'→p:=by with_reducible first|(intro Z9;refine BB (id:=3) AJ (by kernel_rfl) ?_;refine gP xL <| gP (xCl func126 (BT)) <| gP xSb <| gP xF <| gP xD <| gP xSb <| gP xA ?_;refine Ke ?_;exact Z9.o)|(intro Z9;refine Tx 4 ?_;refine gO xL <| gO (xCl func28 (SG)) <| gO xLt ?_;exact Z9.o)|fail):p:=h ⟨k⟩
theorem AsA (k:p') (h:Hd9 p'→p:=by with_reducible first|(intro Z9;refine BB (id:=8) AJ (by kernel_rfl) ?_;refine gP xM <| gP (xCl func167 (PW)) <| gP xL <| gP (xCl func9 (CM)) <| gP xLt ?_;refine Ke ?_;exact Z9.o)|(intro Z9;refine Tx 10 ?_;refine gO xM <| gO (by exact FZ rfl rfl rfl) <| gO (by first|exact xCl func167 (PM)|exact xCl func167 (PW)) <| gZ (xSk Ab) ?_;exact Z9.o)|fail):p:=h ⟨k⟩
theorem AfD (x:Pq) (h:Sm x 20000 20000):CV prog An 84 [aDy false x.1 x.2] [aDy false (upP x).1 (upP x).2]:=by
 refine cvz func84 ntmps84 ?_
 have hd:=h.d
 have hbn:Bl x.1.natAbs≤20000:=CZ.2 h.n
 have hl:(Ad x.1.natAbs).length≤40000:=lT (h.lenN 625 (by decide)) (by decide)
 have SG:=GF x.1 x.2 h.ok (lT hl (by decide))
 have BT:=IR x.1 x.2 h.ok (lT hl (by decide))
 have PW:=PI (((Bl x.1.natAbs:Nat):Int) - 1 - (x.2:Int)) (by omega) (by omega)
 have sp:=AbY (k:=((Bl x.1.natAbs:Nat):Int) - 1 - (x.2:Int)) (n:=20001) (by omega) (by omega) (by decide)
 have lp:=lT (sp.lenN 626 (by decide)) (show 626≤40000 by decide)
 by_cases h0:x.1=0
 case pos =>
  rw [show upP x=x from if_pos h0]
  rw [show sgI x.1=0 by unfold sgI;(repeat' split) <;> omega] at SG
  repeat' (with_reducible first|refine AfC ?_|(refine Tx 2 ?_;refine gO xL <| gZ (xSk Ab) ?_))
  exact Th
 have hk:upK x=((Bl x.1.natAbs:Nat):Int) - 1 - (x.2:Int):=rfl
 by_cases h1:x.1<0
 case pos =>
  rw [show sgI x.1 = -1 by unfold sgI;(repeat' split) <;> omega] at SG
  by_cases h2:((Bl x.1.natAbs:Nat):Int) - 1 - (x.2:Int) < -30
  case pos =>
   rw [show upP x=(0,0) by unfold upP;rw [if_neg h0,if_pos h1,if_pos (by omega)],LO]
   repeat' (with_reducible first|refine AfC ?_|refine AiW ?_|(refine Tx 5 ?_;refine gO xM <| gO xLt ?_)|(refine Tx 6 ?_;refine gO (by exact AH rfl Mq rfl rfl) <| gZ (xSk Ab) ?_))
   exact AN rfl (.cons_ (AuT Ab rfl) .nil_)
  rw [show upP x=MI (pw (((Bl x.1.natAbs:Nat):Int) - 1 - (x.2:Int))) by unfold upP;rw [if_neg h0,if_pos h1,if_neg (by omega),hk]]
  have NG:=ER (pw (((Bl x.1.natAbs:Nat):Int) - 1 - (x.2:Int))).1 (pw (((Bl x.1.natAbs:Nat):Int) - 1 - (x.2:Int))).2 sp.ok lp
  repeat' (with_reducible first|refine AfC ?_|refine AiW ?_|(refine Tx 5 ?_;refine gO xM <| gO xLt ?_)|(refine Tx 7 ?_;refine gO xM <| gO (xCl func167 (PW)) <| gO (xCl func83 (NG)) <| gZ (xSk Ab) ?_))
  exact Th
 rw [show sgI x.1=1 by unfold sgI;(repeat' split) <;> omega] at SG
 have CM:=Ck (pw (((Bl x.1.natAbs:Nat):Int) - 1 - (x.2:Int))).1 (pw (((Bl x.1.natAbs:Nat):Int) - 1 - (x.2:Int))).2 x.1 x.2 sp.ok h.ok lp hl
 by_cases h3:Cf (pw (((Bl x.1.natAbs:Nat):Int) - 1 - (x.2:Int))).1 (pw (((Bl x.1.natAbs:Nat):Int) - 1 - (x.2:Int))).2 x.1 x.2<0
 case pos =>
  have PM:=PI (max (((Bl x.1.natAbs:Nat):Int) - 1 - (x.2:Int)+1) (-30)) (by omega) (by omega)
  rw [show upP x=pw (max (((Bl x.1.natAbs:Nat):Int) - 1 - (x.2:Int)+1) (-30)) by unfold upP;rw [if_neg h0,if_neg h1,hk,if_pos h3]]
  repeat' (with_reducible first|refine AfC ?_|refine AiW ?_|refine AsA ?_|(refine Tx 9 ?_;refine gO xM <| gO xAd <| gO xA ?_))
  exact Th
 case neg =>
  have PM:=PI (max (((Bl x.1.natAbs:Nat):Int) - 1 - (x.2:Int)) (-30)) (by omega) (by omega)
  rw [show upP x=pw (max (((Bl x.1.natAbs:Nat):Int) - 1 - (x.2:Int)) (-30)) by unfold upP;rw [if_neg h0,if_neg h1,hk,if_neg h3]]
  repeat' (with_reducible first|refine AfC ?_|refine AiW ?_|refine AsA ?_)
  exact Th
theorem UR {p:Pq} {d den:Nat} (h:Sm p n d) (hd:den≤65536):Sm (Td p den) n den:=by
 unfold Td BX
 split
 ·exact ⟨h.ok,h.n,by assumption⟩
 ·exact Sm.mk_nf (aa _) hd (ic WV h.n)
theorem AiX {d den:Nat} (h:IwS a n d) (hd:den≤65536):IwS (Il a den) n den∧gv (Il a den).1≤gv a.1∧gv a.2≤gv (Il a den).2:=by
 have f1:=Ux (p:=a.1) (den:=den) h.s1.le hd
 have f2:=Ux (p:=MI a.2) (den:=den) h.s2.neg.le hd
 rw [Ln] at f2
 have g1:gv (Il a den).1≤gv a.1:=f1.1
 have g2:gv a.2≤gv (Il a den).2:=by
  show _≤gv (MI (Td (MI a.2) den))
  rw [Ln]
  have f3:gv (Td (MI a.2) den) ≤ -gv a.2:=f2.1
  omega
 exact ⟨⟨UR h.s1 hd,(UR h.s2.neg hd).neg,by have:=h.le;omega⟩,g1,g2⟩
def Fi (inv r:Iq):Iq:=Il (LU inv r) 64
def loC (inv r:Iq):Bool:=decide (¬ (Fi inv r).1=inv.1)
def hiC (inv r:Iq):Bool:=decide (¬ (Fi inv r).2=inv.2)
def Fx (w:Bool) (inv r:Iq):Iq:=(if (w && loC inv r)=true then MI (upP (MI (Fi inv r).1)) else (Fi inv r).1,if (w && hiC inv r)=true then upP (Fi inv r).2 else (Fi inv r).2)
theorem Aov {b:Iq} {d:Nat} (h:IwS a n d) (k:IwS b n d):gv (LU a b).1=min (gv a.1) (gv b.1)∧gv (LU a b).2=max (gv a.2) (gv b.2):=by
 obtain ⟨e1,e2,e3⟩:=GE h.s1 h.s2 k.s1 k.s2
 have h1:=h.le
 have h2:=k.le
 exact ⟨by show gv (DJ [a.1,a.2,b.1,b.2]).1=_;rw [e1];omega,by show gv (DJ [a.1,a.2,b.1,b.2]).2=_;rw [e2];omega⟩
theorem AkO (h:IwS a LB LB) (k:IwS r LB LB):IwS (Fi a r) LB 64∧gv (Fi a r).1≤gv a.1∧gv (Fi a r).1≤gv r.1∧gv a.2≤gv (Fi a r).2∧gv r.2≤gv (Fi a r).2:=by
 obtain ⟨e1,e2⟩:=Aov h k
 obtain ⟨s,r1,r2⟩:=AiX (h.hull k) (den:=64) (by decide)
 exact ⟨s,by show gv (Il (LU a r) 64).1≤_;omega,by show gv (Il (LU a r) 64).1≤_;omega,by show _≤gv (Il (LU a r) 64).2;omega,by show _≤gv (Il (LU a r) 64).2;omega⟩
theorem YS {p:Pq} (h:Sm p LB 64):Sm (upP p) 20000 20000∧gv p≤gv (upP p)∧inU (gv (upP p)):=by
 obtain ⟨h1,h2,h3⟩:=AuY (h.more (aa LB) (show 64≤LB by decide)) (by decide) (by decide)
 exact ⟨h1.more (by decide) (by decide),h2,h3⟩
theorem AfE (h:IwS a LB LB) (k:IwS r LB LB):IwS (Fx w a r) 20000 20000∧gv (Fx w a r).1≤gv a.1∧gv a.2≤gv (Fx w a r).2 ∧
  (w=true→((loC a r=false∧(Fx w a r).1=a.1)∨(gv (Fx w a r).1<gv a.1∧inU (gv (Fx w a r).1)))∧((hiC a r=false∧(Fx w a r).2=a.2)∨(gv a.2<gv (Fx w a r).2∧inU (gv (Fx w a r).2)))):=by
 obtain ⟨s,r1,r2,r3,r4⟩:=AkO h k
 have hh:=h.le
 obtain ⟨u1,u2,u3⟩:Sm (upP (MI (Fi a r).1)) 20000 20000∧gv (MI (Fi a r).1)≤gv (upP (MI (Fi a r).1))∧inU (gv (upP (MI (Fi a r).1))):=YS s.s1.neg
 obtain ⟨v1,v2,v3⟩:=YS s.s2
 rw [show gv (MI (Fi a r).1) = -gv (Fi a r).1 from Ln _] at u2
 have q1:Sm (Fx w a r).1 20000 20000∧gv (Fx w a r).1≤gv a.1∧(w=true→((loC a r=false∧(Fx w a r).1=a.1)∨(gv (Fx w a r).1<gv a.1∧inU (gv (Fx w a r).1)))):=by
  show Sm (if (w && loC a r)=true then _ else _) _ _∧gv (if (w && loC a r)=true then _ else _)≤_∧(w=true→((_∧(if (w && loC a r)=true then _ else _)=_)∨(gv (if (w && loC a r)=true then _ else _)<_∧inU (gv (if (w && loC a r)=true then _ else _)))))
  by_cases hc:(w && loC a r)=true
  ·rw [if_pos hc]
   rw [aj] at hc
   have hne:¬ (Fi a r).1=a.1:=of_decide_eq_true hc.2
   have hlt:gv (Fi a r).1<gv a.1:=Int.lt_iff_le_and_ne.2 ⟨r1,fun e=>hne (Tb s.s1.ok h.s1.ok e)⟩
   rw [Ln]
   refine ⟨u1.neg,by omega,fun _=>.inr ⟨by omega,?_⟩⟩
   rcases u3 with e|⟨j,e|e⟩
   ·exact .inl (by omega)
   ·exact .inr ⟨j,.inr (by omega)⟩
   ·exact .inr ⟨j,.inl (by omega)⟩
  ·rw [if_neg hc]
   refine ⟨s.s1.more (by decide) (by decide),r1,fun hw=>.inl ?_⟩
   rw [hw,eg,ci] at hc
   exact ⟨hc,bz fun hn=>by rw [show loC a r=true from decide_eq_true hn] at hc;cases hc⟩
 have q2:Sm (Fx w a r).2 20000 20000∧gv a.2≤gv (Fx w a r).2∧(w=true→((hiC a r=false∧(Fx w a r).2=a.2)∨(gv a.2<gv (Fx w a r).2∧inU (gv (Fx w a r).2)))):=by
  show Sm (if (w && hiC a r)=true then _ else _) _ _∧_≤gv (if (w && hiC a r)=true then _ else _)∧(w=true→((_∧(if (w && hiC a r)=true then _ else _)=_)∨(_<gv (if (w && hiC a r)=true then _ else _)∧inU (gv (if (w && hiC a r)=true then _ else _)))))
  by_cases hc:(w && hiC a r)=true
  ·rw [if_pos hc]
   rw [aj] at hc
   have hne:¬ (Fi a r).2=a.2:=of_decide_eq_true hc.2
   have hlt:gv a.2<gv (Fi a r).2:=Int.lt_iff_le_and_ne.2 ⟨r3,fun e=>hne (Tb h.s2.ok s.s2.ok e).symm⟩
   exact ⟨v1,by omega,fun _=>.inr ⟨by omega,v3⟩⟩
  ·rw [if_neg hc]
   refine ⟨s.s2.more (by decide) (by decide),r3,fun hw=>.inl ?_⟩
   rw [hw,eg,ci] at hc
   exact ⟨hc,bz fun hn=>by rw [show hiC a r=true from decide_eq_true hn] at hc;cases hc⟩
 exact ⟨⟨q1.1,q2.1,by have:=q1.2.1;have:=q2.2.1;omega⟩,q1.2.1,q2.2.1,fun hw=>⟨q1.2.2 hw,q2.2.2 hw⟩⟩
def rgA (ps:List Prt) (bs:List Bk) (l:List Iq) (k:Nat):Iq:=(rgV ps bs l)[ApR bs ((AW bs)[k]?.getD 0)]?.getD iZ
def nxI (ps:List Prt) (bs:List Bk) (w:Bool) (l:List Iq) (k:Nat):Iq:=Fx w (l[k]?.getD iZ) (rgA ps bs l k)
def Ee (ps:List Prt) (bs:List Bk) (w:Bool) (l:List Iq):List Iq:=(List.range (AW bs).length).map (nxI ps bs w l)
def chgB (ps:List Prt) (bs:List Bk) (l:List Iq) (k:Nat):Bool:=loC (l[k]?.getD iZ) (rgA ps bs l k) || hiC (l[k]?.getD iZ) (rgA ps bs l k)
def AkP (ps:List Prt) (bs:List Bk) (l:List Iq) (k:Nat):Bool:=(List.range k).any (chgB ps bs l)
def Xg (ps:List Prt) (bs:List Bk) (rd:Int):Nat→Nat→List Iq→Option (Int × List Iq)
 | 0,_,_=>none
 | f+1,r,l=>if Gg ps bs l=true then some (4,[]) else if AkP ps bs l (AW bs).length=false then some (0,l)
  else if (Ee ps bs (decide (rd<(r:Int))) l).any YQ=true then some (22,[]) else Xg ps bs rd f (r+1) (Ee ps bs (decide (rd<(r:Int))) l)
structure Ahi (bs:List Bk) (l:List Iq):Prop where
 len:l.length=(AW bs).length
 iw:∀ a∈l,IwS a 20000 20000
 far:∀ a∈l,YQ a=false
 st:∀ k,k<(AW bs).length→gv (l[k]?.getD iZ).1≤gv ((AO bs)[k]?.getD (0,0))∧gv ((AO bs)[k]?.getD (0,0))≤gv (l[k]?.getD iZ).2
theorem Aav {α:Type} {l:List α} {k:Nat} (h:k<l.length) (z:α):l[k]?.getD z∈l:=by rw [gE h,bg];exact ff h
section
variable {ps:List Prt} {bs:List Bk} {os:List Int} {l:List Iq} {rd:Int}
theorem Xh (w:Bool):(Ee ps bs w l).length=(AW bs).length:=by unfold Ee;rw [ad,jj]
theorem AiY (w:Bool) {k:Nat} (hk:k<(AW bs).length):(Ee ps bs w l)[k]?=some (nxI ps bs w l k):=by unfold Ee;rw [ag,jh hk];rfl
theorem Ahi.lb (h:Ahi bs l) (hb:Gg ps bs l=false):∀ a∈l,IwS a LB LB:=fun a ha=>Tg (h.iw a ha) ((AfA hb).1 a ha)
theorem AkQ (he:Av ps bs os=0) (h:Ahi bs l) (hb:Gg ps bs l=false) {k:Nat} (hk:k<(AW bs).length):IwS (rgA ps bs l k) LB LB:=by
 obtain ⟨i,hi⟩:∃ i,(AW bs)[k]?=some i:=⟨_,gE hk⟩
 have hid:=FS hi
 obtain ⟨y,hy⟩:∃ y,bs[i]?=some y:=⟨_,gE hid.1⟩
 obtain ⟨b,hA0,hbl⟩:=Uu he hy (by rw [←Fh hy];exact hid.2)
 obtain ⟨r,hr,_,hrs⟩:=AfB he (h.lb hb) h.len hb hbl
 unfold rgA
 rw [hi,bg,QU hy hA0,hr]
 exact hrs
theorem Ahi.next (he:Av ps bs os=0) (h:Ahi bs l) (hb:Gg ps bs l=false) (w:Bool) (hf:(Ee ps bs w l).any YQ=false):Ahi bs (Ee ps bs w l):=by
 have key:∀ k,k<(AW bs).length→IwS (nxI ps bs w l k) 20000 20000∧gv (nxI ps bs w l k).1≤gv (l[k]?.getD iZ).1∧gv (l[k]?.getD iZ).2≤gv (nxI ps bs w l k).2:=fun k hk=>by
  have:=AfE (w:=w) (h.lb hb _ (Aav (by rw [h.len];exact hk) iZ)) (AkQ he h hb hk)
  exact ⟨this.1,this.2.1,this.2.2.1⟩
 refine ⟨Xh w,fun a ha=>?_,fun a ha=>?_,fun k hk=>?_⟩
 ·obtain ⟨k,hk,rfl⟩:=List.mem_map.1 ha
  exact (key k (List.mem_range.1 hk)).1
 ·have:=List.any_eq_false.1 hf a ha
  rwa [ci] at this
 ·rw [AiY w hk,bg]
  obtain ⟨_,k1,k2⟩:=key k hk
  obtain ⟨s1,s2⟩:=h.st k hk
  exact ⟨Int.le_trans k1 s1,Int.le_trans s2 k2⟩
def DM (bs:List Bk):List Iq:=(AO bs).map fun p=>(p,p)
theorem AbZ (he:Av ps bs os=0) (hf:(DM bs).any YQ=false):Ahi bs (DM bs):=by
 have hst:=IW he
 refine ⟨by unfold DM;rw [ad];exact hst.len,fun a ha=>?_,fun a ha=>?_,fun k hk=>?_⟩
 ·obtain ⟨p,hp,rfl⟩:=List.mem_map.1 ha
  exact (IwS.pt (hst.sm p hp)).more (by decide) (by decide)
 ·have:=List.any_eq_false.1 hf a ha
  rwa [ci] at this
 ·obtain ⟨p,hp⟩:∃ p,(AO bs)[k]?=some p:=⟨_,gE (by rw [hst.len];exact hk)⟩
  unfold DM
  rw [ag,hp]
  exact ⟨dh _,dh _⟩
end
def Od (a:Iq):Rv × Rv:=(Ew a.1,Ew a.2)
theorem YU (l:List Iq):AcQ (l.map Od)=.row false 6 l.length (Ar (dIw false) l):=by
 unfold AcQ Ar
 rw [ad,bw]
 congr 2
 refine cw fun a _=>?_
 show dRv false (Ew a.1)++dRv false (Ew a.2)=dIw false a
 rw [QY,QY]
 rfl
theorem PJ (l:List Iq):(l.map Od).map ivQ=l:=by
 rw [bw]
 refine (cw fun a _=>?_).trans (List.map_id l)
 show (rvP (Ew a.1),rvP (Ew a.2))=a
 rw [Hh,Hh]
section
variable {ps:List Prt} {bs:List Bk} {os:List Int} {l:List Iq} {rd:Int}
theorem Aaw {d:Nat} (h:∀ a∈l,IwS a n d) (hn:n≤1280000):∀ q∈l.map Od,RvL q.1∧RvL q.2:=fun q hq=>by
 obtain ⟨a,ha,rfl⟩:=List.mem_map.1 hq
 exact ⟨OD (h a ha).s1 hn,OD (h a ha).s2 hn⟩
theorem AkR {d:Nat} (h0:Av ps bs os=0) (h:∀ a∈l,IwS a n d) (hl:l.length=(AW bs).length):rgE ps bs os (l.map Od)=if Gg ps bs l=true then 4 else 0:=by
 rw [rgE4 h0 (by rw [ad];exact hl) (by rw [jm];exact List.all_eq_true.2 fun q hq=>by obtain ⟨a,ha,rfl⟩:=List.mem_map.1 hq;exact Afq (h a ha)),PJ]
def nxS (ps:List Prt) (bs:List Bk) (w:Bool) (l:List Iq) (k:Nat):List (Option Iq):=(List.range (AW bs).length).map fun j=>if j<k then some (nxI ps bs w l j) else none
theorem AfF {k:Nat}:(nxS ps bs w l k).length=(AW bs).length:=by unfold nxS;rw [ad,jj]
theorem AuZ:List.replicate (AW bs).length none=nxS ps bs w l 0:=by
 unfold nxS
 refine fk fun i=>?_
 rw [ag,jr]
 by_cases hi:i<(AW bs).length
 ·rw [jh hi,if_pos hi];rfl
 ·rw [fg (by rw [jj];omega),if_neg hi];rfl
theorem Aow {k:Nat} (hk:k<(AW bs).length):(nxS ps bs w l k).set k (some (nxI ps bs w l k))=nxS ps bs w l (k+1):=by
 refine fk fun i=>?_
 rw [bu,AfF]
 unfold nxS
 rw [ag,ag]
 by_cases hi:i<(AW bs).length
 ·rw [jh hi,bp,bp]
  by_cases hik:k=i
  ·subst hik
   rw [if_pos rfl,if_pos hk,if_pos (by omega)]
  ·rw [if_neg hik]
   by_cases h2:i<k
   ·rw [if_pos h2,if_pos (by omega)]
   ·rw [if_neg h2,if_neg (by omega)]
 ·rw [fg (by rw [jj];omega),if_neg (by omega)];rfl
theorem Aox:kWs (nxS ps bs w l (AW bs).length)=(Ar (dIw false) (Ee ps bs w l)).map C.d:=by
 unfold kWs nxS Ar Ee
 rw [List.map_flatten,bw,bw,bw]
 congr 1
 refine cw fun j hj=>?_
 show kW (if j<_ then _ else _)=_
 rw [if_pos (List.mem_range.1 hj)]
 rfl
theorem AfG {k b:Nat} (hi:(AW bs)[k]?=some i) (hy:bs[i]?=some y) (hA:y.args[0]?=some (b:Int)) (ha:l[k]?=some a) (hr:(rgV ps bs l)[b]?=some r):AkP ps bs l (k+1)=(AkP ps bs l k || loC a r || hiC a r)∧(∀ w,nxI ps bs w l k=Fx w a r):=by
 have e1:rgA ps bs l k=r:=by unfold rgA;rw [hi,bg,QU hy hA,hr,bg]
 refine ⟨?_,fun w=>by unfold nxI;rw [ha,bg,e1]⟩
 unfold AkP
 rw [cr,List.any_append,List.any_cons,List.any_nil,Bool.or_false]
 unfold chgB
 rw [ha,bg,e1,Bool.or_assoc]
theorem AkS {p q:Pq} {d n' d':Nat} (hp:Sm p n d) (hq:Sm q n' d'):(Cf p.1 p.2 q.1 q.2 != 0)=decide (¬ p=q):=by
 rw [Bool.eq_iff_iff,bne_iff_ne,decide_eq_true_eq]
 refine not_congr ((ArT hp.le hq.le).trans ⟨fun h=>Tb hp.ok hq.ok h,fun h=>by rw [h]⟩)
def Xi (ps:List Prt) (bs:List Bk) (rd:Int) (f:Nat):Option (Int × List Iq):=if (DM bs).any YQ=true then some (22,[]) else Xg ps bs rd f 1 (DM bs)
theorem Aca {l:List Iq} {k:Nat} {p:Iq} (h:l[k]?=some p):(Ar (dIw false) (l.take k)).map C.d++(dIw false p).map C.d=(Ar (dIw false) (l.take (k+1))).map C.d∧(l.take k).length+1=(l.take (k+1)).length∧(l.take k).length≤k:=by
 refine ⟨?_,?_,by rw [cj];omega⟩
 ·rw [ak,h,dr,Fb,ct];rfl
 ·rw [ak,h,aq];rfl
end
theorem AsB (k:p') (h:Hd9 p'→p:=by with_reducible first|(intro Z9;refine Tx 12 ?_;refine gO (xIr Af (Yt hp)) <| gO xL <| gN (xAl Ak) <| gZ (xSk Ab) ?_;exact Z9.o)|(intro Z9;refine Tx 13 ?_;refine gO xL <| gO (xCl func79 (PT)) <| gN (xAl Am) <| gZ (xSk Ae) ?_;exact Z9.o)|(intro Z9;refine Tx 14 ?_;refine gO xL <| gO (xCl func80 (FR)) ?_;exact Z9.o)|fail):p:=h ⟨k⟩
theorem Acb (t:Bool) {ps:List Prt} {bs:List Bk} {os:List Int} (hl:EF ps bs os) (h0:Av ps bs os=0) (rd:Int) (r0:1≤rd) (r1:rd≤16) (res:Int × List Iq) (f:Nat) (hf:f≤1000000000) (hres:Xi ps bs rd f=some res):CV prog An 37 [aDg t ps bs os,aI rd] [Asv res.2,aE res.1]:=by
 refine cvz func37 ntmps37 ?_
 have SC:=WT t hl (ps:=ps) (bs:=bs) (os:=os)
 have DL:=(Ih t hl (ps:=ps) (bs:=bs) (os:=os)).cv
 rw [h0,NW rfl] at SC
 rw [if_pos h0,h0] at DL
 unfold ApS at SC
 have hnl:=Cb (AW bs)
 have hl2:=hl.l2
 have hdb:=NY bs
 have hso:=IW h0
 have hsl:=hso.len
 have hsi:(DM bs).length=(AO bs).length:=ad ..
 repeat' (with_reducible first|refine qq ?_|(refine Tx 0 ?_;refine gN xBo <| gO xA <| gO xA ?_)|(refine Tx 1 ?_;refine gO xL <| gO (xCl func25 (SC)) <| gO xMt <| gO xEx <| gO xEx <| gO xA <| gO xA ?_)|(refine Tx 2 ?_;refine gO xM <| gO (xNE Ag) ?_)|(refine Tx 4 ?_;refine gO xM <| gO xLt <| gO xM ?_;(first|iterate 2 refine Jd ?_|(refine Jy xM1 ?_;refine Jy xGt ?_));refine gO xPk ?_)|(refine Tx 6 ?_;refine gO xL <| gO (xCl func36 (DL)) <| gO xMt <| gO xEx <| gO xEx <| gO xA <| gO xA ?_)|(refine Tx 7 ?_;refine gO xM <| gO (xNE Ag) ?_)|(refine Tx 9 ?_;refine gO xA ?_)|(refine Tx 10 ?_;refine gO xM <| gO xN <| gO xM ?_))
 refine AY (Mp 9 45 6 rfl) ?_
 refine AY (Bz 2) (Aq (fun n Fr H=>∃ k:Nat,k≤(AO bs).length∧n=(AO bs).length - k∧(∀ p∈((DM bs).take (k)),YQ p=false)∧Fr=ofL [(1,vd (.val (.int .i64 rd))),(2,vr 0),(8,vd (AM false (Br (AW bs)))),(9,vo 1 (((DM bs).take k).length)),(49,vd (.row false 3 (AO bs).length (Ar dyP (AO bs)))),(50,vi ((AO bs).length)),(51,vi ((k:Nat)))]∧H=[.box 26 [.d (CU t ps),.d (Dw t bs),.d (AM t os)],.row 45 6 ((DM bs).take (k)).length ((Ar (dIw false) ((DM bs).take (k))).map C.d)]) (n0:=(AO bs).length) ⟨0,af _,rfl,(fun p hp=>by simp at hp),rfl,rfl⟩ ?_)
 rintro n Fr H ⟨k,hk,rfl,hnf,rfl,rfl⟩
 by_cases hlt:k<(AO bs).length
 case pos =>
  obtain ⟨p,hp⟩:∃ p,(AO bs)[k]?=some p:=⟨_,gE hlt⟩
  have hsm:=hso.sm p (gM hp)
  have lp:=lT (hsm.lenN 128 (by decide)) (show 128≤40000 by decide)
  have PT:=Dz p hsm.ok lp
  have FR:=Aau (p,p) ((IwS.pt hsm).more (by decide) (by decide))
  have hsp:(DM bs)[k]?=some (p,p):=by unfold DM;rw [ag,hp];rfl
  obtain ⟨hap,hap2,hoL⟩:=Aca hsp
  cases hf:YQ (p,p)
  case true =>
   rw [hf] at FR
   have hany:(DM bs).any YQ=true:=List.any_eq_true.2 ⟨_,gM hsp,hf⟩
   rw [show Xi ps bs rd f=some (22,[]) from if_pos hany] at hres
   cases hres
   repeat' (with_reducible first|refine qq ?_|(refine Tx 11 ?_;refine gO xLt ?_)|refine AsB ?_|(refine Tx 15 ?_;refine gO (xMi underlying85) <| gO xA <| gO xA ?_))
   exact Ri
  case false =>
   rw [hf] at FR
   repeat' (with_reducible first|refine qq ?_|(refine Tx 11 ?_;refine gO xLt ?_)|refine AsB ?_|(refine Tx 16 ?_;refine gO xM <| gO xL <| gN (by exact AZ rfl Ah Am rfl rfl (by decide) (by decide)) <| gT (by exact FG rfl rfl rfl rfl rfl rfl Ah Am (by omega) (by decide) (by decide) rfl hap hap2) <| gO xA ?_)|(refine Tx 17 ?_;refine gO xAd <| gO xM ?_))
   refine ⟨_,_,Bz 2,_,?_,k+1,by omega,rfl,Ev hnf hsp hf,rfl,rfl⟩
   ·omega
 obtain rfl:k=(AO bs).length:=by omega
 clear hlt hk
 have htk:(DM bs).take (AO bs).length=DM bs:=by rw [←hsi,az]
 rw [htk] at hnf ⊢
 have hany:(DM bs).any YQ=false:=List.any_eq_false.2 fun p hp=>by rw [hnf p hp];decide
 rw [show Xi ps bs rd f=Xg ps bs rd f 1 (DM bs) from if_neg (by rw [hany];decide)] at hres
 have hI0:=AbZ h0 hany
 repeat' (with_reducible first|refine qq ?_|(refine Tx 11 ?_;refine gO xLt ?_)|(refine Tx 18 ?_;refine gO xA ?_))
 refine AY (Ff (ds:=Ar (dIw false) (DM bs)) 9 1 rfl rfl) ?_
 refine AY (Bz 1) (Aq (fun n Fr H=>∃ (r:Nat) (l:List Iq),Xg ps bs rd n r l=some res∧Ahi bs l∧r+n≤1+f∧Fr=ofL [(1,vd (.val (.int .i64 rd))),(2,vr 0),(8,vd (AM false (Br (AW bs)))),(9,vd (.row false 6 l.length (Ar (dIw false) l))),(13,vi ((r:Nat)))]∧H=[.box 26 [.d (CU t ps),.d (Dw t bs),.d (AM t os)]]) (n0:=f) ⟨1,_,hres,hI0,aa _,rfl,rfl⟩ ?_)
 clear hres hI0 hnf hany htk
 rintro n Fr H ⟨r,l,hres,hI,hrn,rfl,rfl⟩
 cases n
 case zero =>
  cases hres
 rename_i n
 case succ =>
  unfold Xg at hres
  have hll:=hI.len
  have EV:=Xf t hl (l.map Od) (Aaw hI.iw (by decide)) (by rw [ad];omega)
  rw [AkR h0 hI.iw hll,PJ,YU] at EV
  by_cases hb:Gg ps bs l=true
  case pos =>
   rw [if_pos hb] at hres
   cases hres
   rw [if_pos hb,Ed (by decide)] at EV
   repeat' (with_reducible first|refine qq ?_|(refine Tx 20 ?_;refine gO xL <| gO xM <| gO (xCl func38 (EV)) <| gO xMt <| gO xEx <| gO xEx <| gO xA <| gO xA ?_)|(refine Tx 21 ?_;refine gO xM <| gO (xNE Ag) ?_)|(refine Tx 22 ?_;refine gO xM <| gO xA <| gO xA ?_))
   exact Ri
  rw [if_neg hb] at hres
  rw [if_neg hb,NW rfl] at EV
  rw [ci] at hb
  unfold Asv at EV
  have hlb:=hI.lb hb
  have hvl:(rgV ps bs l).length=bs.length:=YP
  obtain ⟨w,hwd⟩:∃ w,decide (rd<(r:Int))=w:=⟨_,rfl⟩
  rw [hwd] at hres
  repeat' (with_reducible first|refine qq ?_|(refine Tx 20 ?_;refine gO xL <| gO xM <| gO (xCl func38 (EV)) <| gO xMt <| gO xEx <| gO xEx <| gO xA <| gO xA ?_)|(refine Tx 21 ?_;refine gO xM <| gO (xNE Ag) ?_)|(refine Tx 23 ?_;refine gO xA ?_)|(refine Tx 24 ?_;refine gO xM <| gO xN <| gN (by first|exact WZ (n:=l.length) rfl rfl rfl Ah Am (by omega) (by decide)|exact Bo rfl rfl rfl Ah Am (by omega) (by decide)) <| gO xA ?_)|(refine Tx 25 ?_;refine gO xM <| gO xN <| gO xM ?_))
  refine AY (Bz 2 (hH:=by rw [←AuZ,←hll];rfl) (h:=by rw [←hnl];exact mB rfl rfl)) (Aq (fun n Fr H=>∃ k:Nat,k≤(AW bs).length∧n=(AW bs).length - k∧Fr=ofL [(1,vd (.val (.int .i64 rd))),(2,vr 0),(8,vd (AM false (Br (AW bs)))),(9,vd (.row false 6 l.length (Ar (dIw false) l))),(13,vi ((r:Nat))),(14,vd (.row false 6 (rgV ps bs l).length (Ar (dIw false) (rgV ps bs l)))),(16,vd (.val (.bool (AkP ps bs l k)))),(17,vo 1 l.length),(79,vd (AM false (Br (AW bs)))),(80,vi ((AW bs).length)),(81,vi ((k:Nat)))]∧H=[.box 26 [.d (CU t ps),.d (Dw t bs),.d (AM t os)],.row 45 6 l.length (kWs (nxS ps bs w l (k)))]) (n0:=(AW bs).length) ⟨0,af _,rfl,rfl,rfl⟩ ?_)
  rintro m Fr H ⟨k,hk,rfl,rfl,rfl⟩
  by_cases hlt:k<(AW bs).length
  case pos =>
   obtain ⟨i,hi⟩:∃ i,(AW bs)[k]?=some i:=⟨_,gE hlt⟩
   have hid:=FS hi
   have hil:=hid.1
   obtain ⟨y,hy⟩:∃ y,bs[i]?=some y:=⟨_,gE hil⟩
   have hk2:=hid.2
   rw [Fh hy] at hk2
   obtain ⟨b,hA0,hbl⟩:=Uu h0 hy hk2
   obtain ⟨rr,hr,_,hrs⟩:=AfB h0 hlb hll hb hbl
   have hal:=(gS.1 hA0).1
   obtain ⟨a,ha⟩:∃ a,l[k]?=some a:=⟨_,gE (by omega)⟩
   have has:=hlb a (gM ha)
   have has2:=has.more LBx LBx
   have hrs2:=hrs.more LBx LBx
   have HU:=Rd a rr has2 hrs2
   have RO:CV prog An 81 [aIw false (LU a rr),aI (64:Int)] [aIw false (Fi a rr),aE 0]:=AbU (LU a rr) 64 (has2.hull hrs2) (by decide)
   obtain ⟨hq,_,_,_,_⟩:=AkO has hrs
   have q1:=hq.s1
   have q2:=hq.s2
   have l1:=lT (q1.lenN 128 (by decide)) (show 128≤40000 by decide)
   have l2:=lT (q2.lenN 128 (by decide)) (show 128≤40000 by decide)
   have m1:=lT (has.s1.lenN 128 (by decide)) (show 128≤40000 by decide)
   have m2:=lT (has.s2.lenN 128 (by decide)) (show 128≤40000 by decide)
   have C1:=Ck (Fi a rr).1.1 (Fi a rr).1.2 a.1.1 a.1.2 q1.ok has.s1.ok l1 m1
   have C2:=Ck (Fi a rr).2.1 (Fi a rr).2.2 a.2.1 a.2.2 q2.ok has.s2.ok l2 m2
   have hb1:(Cf (Fi a rr).1.1 (Fi a rr).1.2 a.1.1 a.1.2 != 0)=loC a rr:=AkS q1 has.s1
   have hb2:(Cf (Fi a rr).2.1 (Fi a rr).2.2 a.2.1 a.2.2 != 0)=hiC a rr:=AkS q2 has.s2
   have NG1:=ER (Fi a rr).1.1 (Fi a rr).1.2 q1.ok l1
   obtain ⟨u1,_,_⟩:Sm (upP (MI (Fi a rr).1)) 20000 20000∧gv (MI (Fi a rr).1)≤gv (upP (MI (Fi a rr).1))∧inU (gv (upP (MI (Fi a rr).1))):=YS q1.neg
   have UP1:=AfD (MI (Fi a rr).1) (q1.neg.more (by decide) (by decide))
   have NG2:=ER (upP (MI (Fi a rr).1)).1 (upP (MI (Fi a rr).1)).2 u1.ok u1.lz
   have UP2:=AfD (Fi a rr).2 (q2.more (by decide) (by decide))
   obtain ⟨hck,hnx⟩:=AfG hi hy hA0 ha hr
   have tl:k<(nxS ps bs w l k).length:=by rw [AfF];exact hlt
   have stV:=Aow (ps:=ps) (bs:=bs) (w:=w) (l:=l) hlt
   rw [hnx w,show Fx w a rr=(if (decide (rd<(r:Int)) && loC a rr)=true then MI (upP (MI (Fi a rr).1)) else (Fi a rr).1,if (decide (rd<(r:Int)) && hiC a rr)=true then upP (Fi a rr).2 else (Fi a rr).2) from by rw [hwd];rfl] at stV
   clear hq
   generalize upP (MI (Fi a rr).1)=u at *
   generalize upP (Fi a rr).2=v at *
   generalize Fi a rr=q at *
   repeat' (with_reducible first|refine qq ?_|(refine Tx 26 ?_;refine gO xLt ?_)|(refine Tx 27 ?_;refine gO xM <| gO (by first|exact xIr Aa (AF (Ij hi))|exact xIr Aa (GZ ha)) <| gO xD <| gO xA <| gO xA ?_)|(refine FC (id:=28) 21 [(21,19)] AJ (by kernel_rfl) ?_;dsimp only [List.take,List.drop];refine gP xM <| gP xM <| gP (xIr Ah (GZ ha)) <| gP xL <| gP xM <| gP xF <| gP xD <| gP xM <| gP (by first|exact xIr Ap (Gc hy)|exact xIr Ap (GZ ha)) <| gP xF <| gP xD <| gP (by first|exact xIr Aa (AF hA0)|exact xIr Aa (GZ ha)) <| gP xD <| gP (by first|exact xIr Ah (GZ hr)|exact xIr Ah (GZ ha)) <| gP xL <| gP (xCl func82 (HU)) <| gP (xCl func81 (RO)) <| gP xMt <| gP (by exact Es rfl rfl rfl) <| gP xEx <| gQ (xAl Am) ?_;refine Ke ?_;refine gZ (xSk Ae) <| gO xA ?_)|(refine Tx 29 ?_;refine gO xM <| gO (xNE Ag) ?_)|(refine BB (id:=31) AJ (by kernel_rfl) ?_;refine gP xF <| gP xL <| gP xM <| gP xM <| gP (xIr Ah (GZ ha)) <| gP xF <| gP xL <| gP (xCl func9 (C1)) <| gP (by first|exact Yc rfl rfl rfl hb1|exact xNe) <| gP xF <| gP xL <| gP xM <| gP xM <| gP (xIr Ah (GZ ha)) <| gP xF <| gP xL <| gP (xCl func9 (C2)) <| gP (by first|exact Yc rfl rfl rfl hb2|exact xNe) <| gP xA <| gP xA ?_;refine Ke ?_))
   refine AY (F':=ofL [(1,vd (.val (.int .i64 rd))),(2,vr 0),(8,vd (AM false (Br (AW bs)))),(9,vd (.row false 6 l.length (Ar (dIw false) l))),(13,vi ((r:Nat))),(14,vd (.row false 6 (rgV ps bs l).length (Ar (dIw false) (rgV ps bs l)))),(16,vd (.val (.bool (AkP ps bs l k)))),(17,vo 1 l.length),(79,vd (AM false (Br (AW bs)))),(80,vi ((AW bs).length)),(81,vi ((k:Nat))),(18,vi ((k:Nat))),(20,vr 2),(22,vd (.val (.bool (loC a rr)))),(23,vd (.val (.bool (hiC a rr))))]) (H':=[.box 26 [.d (CU t ps),.d (Dw t bs),.d (AM t os)],.row 45 6 l.length (kWs (nxS ps bs w l k)),.box 45 ((dIw false q).map C.d)]) (Bz 3) ?_
   clear hb1 hb2 C1 C2 HU RO m1 m2 SC EV DL
   cases hb1:loC a rr <;> cases hb2:hiC a rr <;> cases hc:AkP ps bs l k <;> by_cases hw:rd<(r:Int)
   all_goals
    rw [hb1,hb2] at stV
    simp only [hw,decide_true,decide_false,eg,im,dn,if_true,if_false] at stV
    skip
    repeat' (with_reducible first|refine qq ?_|(refine Tx 32 ?_;refine gO xM <| gO xM ?_;(first|refine Jd ?_|refine Jy xM1 ?_);refine gO xPk <| gO xM ?_;(first|refine Jd ?_|refine Jy xM1 ?_);refine gO xPk <| gO xA ?_)|(refine Tx 33 ?_;refine gO xM <| gO xM <| gO xGt <| gO xM ?_;(first|refine Jd ?_|refine Jy xM1 ?_);refine gO xPk ?_)|(refine Tx 34 ?_;refine gO xF <| gO xL <| gO (xCl func83 (NG1)) <| gO (xCl func84 (UP1)) <| gO (xCl func83 (NG2)) <| gO xF <| gZ (xSk Ab) ?_)|(refine Tx 35 ?_;refine gO xM <| gO xM <| gO xGt <| gO xM ?_;(first|refine Jd ?_|refine Jy xM1 ?_);refine gO xPk ?_)|(refine Tx 36 ?_;refine gO xF <| gO xL <| gO (xCl func84 (UP2)) <| gO xF <| gZ (xSk Ab) ?_)|(refine Tx 37 ?_;refine gO xM <| gO xM <| gO xL <| gO (xIo (i:=k) Ah) <| gZ Aos ?_)|(refine Tx 38 ?_;refine gO xAd <| gO xM ?_))
    refine ⟨_,_,Bz 2 (h:=by rw [hck,hc,hb1,hb2];exact mB rfl rfl),_,?_,k+1,by omega,rfl,rfl,rfl⟩
    ·omega
  obtain rfl:k=(AW bs).length:=by omega
  clear hlt hk
  rw [Aox]
  have hnL:(Ee ps bs w l).length=(AW bs).length:=Xh w
  by_cases hch:AkP ps bs l (AW bs).length=false
  case pos =>
   rw [if_pos hch] at hres
   cases hres
   rw [hch]
   repeat' (with_reducible first|refine qq ?_|(refine Tx 26 ?_;refine gO xLt ?_)|(refine Tx 39 ?_;refine gO xM <| gO AbX ?_)|(refine Tx 40 ?_;refine gO xM <| gO xA <| gO xA ?_))
   exact AN rfl (.cons_ (.tmp (.one (Bp rfl fun _=>.row (Ce (f:=dIw false) LV l)))) (.cons_ (Fv rfl rfl) .nil_))
  rw [if_neg hch] at hres
  rw [jm] at hch
  rw [hch]
  repeat' (with_reducible first|refine qq ?_|(refine Tx 26 ?_;refine gO xLt ?_)|(refine Tx 39 ?_;refine gO xM <| gO AbX ?_))
  refine AY (Ff (ds:=Ar (dIw false) (Ee ps bs w l)) 17 1 rfl rfl) ?_
  repeat' (with_reducible first|refine qq ?_|(refine Tx 41 ?_;refine gO xM <| gO xN <| gO xM ?_))
  refine AY (Bz 1 (h:=by rw [hnL,←hll];exact mB rfl rfl)) (Aq (fun n Fr H=>∃ k:Nat,k≤(Ee ps bs w l).length∧n=(Ee ps bs w l).length - k∧(∀ p∈(Ee ps bs w l).take k,YQ p=false)∧Fr=ofL [(1,vd (.val (.int .i64 rd))),(2,vr 0),(8,vd (AM false (Br (AW bs)))),(13,vi ((r:Nat))),(17,vd (.row false 6 (Ee ps bs w l).length (Ar (dIw false) (Ee ps bs w l)))),(164,vd (.row false 6 (Ee ps bs w l).length (Ar (dIw false) (Ee ps bs w l)))),(165,vi ((Ee ps bs w l).length)),(166,vi ((k:Nat)))]∧H=[.box 26 [.d (CU t ps),.d (Dw t bs),.d (AM t os)]]) (n0:=(Ee ps bs w l).length) ⟨0,af _,rfl,(fun p hp=>by simp at hp),rfl,rfl⟩ ?_)
  rintro m Fr H ⟨k,hk,rfl,hnf,rfl,rfl⟩
  by_cases hlt:k<(Ee ps bs w l).length
  case pos =>
   obtain ⟨x,hx⟩:∃ x,(Ee ps bs w l)[k]?=some x:=⟨_,gE hlt⟩
   have hxs:IwS x 20000 20000:=by
    obtain ⟨j,hj,rfl⟩:=List.mem_map.1 (gM hx)
    have hj:=List.mem_range.1 hj
    exact (AfE (hlb _ (Aav (by omega) iZ)) (AkQ h0 hI hb hj)).1
   have FR:=Aau x hxs
   cases hf:YQ x
   case true =>
    rw [hf] at FR
    have hany:(Ee ps bs w l).any YQ=true:=List.any_eq_true.2 ⟨_,gM hx,hf⟩
    rw [if_pos hany] at hres
    cases hres
    repeat' (with_reducible first|refine qq ?_|(refine Tx 42 ?_;refine gO xLt ?_)|(refine Tx 43 ?_;refine gO (xIr Ah (GZ hx)) <| gO xL <| gN (xAl Am) <| gZ (xSk Ae) ?_)|(refine Tx 44 ?_;refine gO xL <| gO (xCl func80 (FR)) ?_)|(refine Tx 45 ?_;refine gO (xMi underlying85) <| gO xA <| gO xA ?_))
    exact Ri
   case false =>
    rw [hf] at FR
    repeat' (with_reducible first|refine qq ?_|(refine Tx 42 ?_;refine gO xLt ?_)|(refine Tx 43 ?_;refine gO (xIr Ah (GZ hx)) <| gO xL <| gN (xAl Am) <| gZ (xSk Ae) ?_)|(refine Tx 44 ?_;refine gO xL <| gO (xCl func80 (FR)) ?_)|(refine Tx 46 ?_;refine gO xAd <| gO xM ?_))
    refine ⟨_,_,Bz 1,_,?_,k+1,by omega,rfl,Ev hnf hx hf,rfl,rfl⟩
    ·omega
  obtain rfl:k=(Ee ps bs w l).length:=by omega
  clear hlt hk
  rw [az] at hnf
  have hany:(Ee ps bs w l).any YQ=false:=List.any_eq_false.2 fun p hp=>by rw [hnf p hp];decide
  rw [if_neg (by rw [hany];decide)] at hres
  repeat' (with_reducible first|refine qq ?_|(refine Tx 42 ?_;refine gO xLt ?_)|(refine Tx 47 ?_;refine gO xM <| gO xA ?_)|(refine Tx 19 ?_;refine gO xM <| gO xAd <| gO xA ?_))
  refine ⟨_,_,Bz 1,n,Nat.lt_succ_self n,r+1,(Ee ps bs w l),hres,hI.next h0 hb w hany,by omega,rfl,rfl⟩
def AfH (t:Bool) (ps:List Prt) (is:List Int) (xs:List Ins) (os:List Int):A:=.agg [CU t ps,AM t is,Ahh t xs,AM t os]
theorem Xj (n e f:Int):CVF prog An 52 [.agg [dI n,dI e],aI f] [aI (Pu n e f),aE (BW n e f)]:=fun w S vs hg hlt ha=>by
 obtain ⟨v,vs',rfl,h1,ha⟩:=ha.uncons
 obtain ⟨u,hu,h2⟩:=CG ha
 subst hu
 obtain ⟨xs,rfl,h3⟩:=h1
 have h4:=Pr (vs:=[.int .i64 n,.int .i64 e]) h3
 subst h4
 cases h2
 refine (Aid n e f w hg).mono fun r w' ⟨he,hb⟩=>?_
 exact ⟨_,he,TY (Ba.val rfl) (Ba.val (ZP _)),hb⟩
theorem Ava (k:Int):CVF prog An 53 [aI k] [aI (opM k)]:=fun w S vs hg hlt ha=>by
 obtain ⟨u,hu,h2⟩:=CG ha
 subst hu
 cases h2
 refine (Uq k w).mono fun r w' ⟨he,hw⟩=>?_
 subst hw
 exact ⟨_,he,Ba.val rfl,ah _ _⟩
theorem Aoy (xs:List Int) (y z:Int):cI xs++[.d (.val (.int .i64 y)),.d (.val (.int .i64 z))]=cI (xs++[y,z]):=by simp [cI]
def cD (ds:List D):List C:=ds.map C.d
theorem AkT (xs ys:List D):cD xs++cD ys=cD (xs++ys):=(ct ..).symm
theorem Tj {l:List Nat} (h:l[t]?=some j):(Br l)[t]?=some (j:Int):=by simp [Br,h]
def Ez (f:Nat→Int) (k j:Nat):Int:=if j<k then f j else 0
theorem MQ {k:Nat}:(tab n (Ez f k)).set k (f k)=tab n (Ez f (k+1)) :=
 Yz (by unfold Ez;rw [if_pos (by omega)]) fun j hj=>by
  unfold Ez
  by_cases h:j<k
  ·rw [if_pos h,if_pos (by omega)]
  ·rw [if_neg h,if_neg (by omega)]
theorem Fj {k:Nat} (h:f k=0):tab n (Ez f k)=tab n (Ez f (k+1)) :=
 IT fun j _=>by
  unfold Ez
  by_cases h1:j<k
  ·rw [if_pos h1,if_pos (by omega)]
  ·by_cases h2:j=k
   ·subst h2
    rw [if_neg h1,if_pos (by omega),h]
   ·rw [if_neg h1,if_neg (by omega)]
theorem US:tab n (Ez f n)=tab n f:=IT fun j hj=>by unfold Ez;rw [if_pos hj]
theorem AfI (n:Nat) (f:Nat→Int):tab n (Ez f 0)=List.replicate n 0:=by
 rw [←Ais]
 exact IT fun j _=>by unfold Ez;rw [if_neg (by omega)]
def ES (bs:List Bk) (F:List Int) (j:Nat):Int:=if AQ bs j=2 then Fo bs F j else 0
def Oe (bs:List Bk) (t j:Nat):Int:=if AQ bs j=2∧PE (dlB bs) j<t then (bs.length:Int)+(PE (dlB bs) j:Int) else 0
def Og (bs:List Bk) (t j:Nat):Int :=
 if AQ bs j=2 then (bs.length:Int)+(PE (dlB bs) j:Int) else if AQ bs j=11∧PE (cpB bs) j<t then (bs.length:Int)+((dlK bs bs.length).length:Int)+2*(PE (cpB bs) j:Int) else 0
theorem Acc:(dlK bs bs.length)[t]?=some j ↔ j<bs.length∧AQ bs j=2∧PE (dlB bs) j=t:=by
 unfold dlK
 rw [ME (dlB bs) t j]
 simp [dlB]
theorem AiZ:(cpK bs bs.length)[t]?=some j ↔ j<bs.length∧AQ bs j=11∧PE (cpB bs) j=t:=by
 unfold cpK
 rw [ME (cpB bs) t j]
 simp [cpB]
theorem Acd (h:j<bs.length) (hk:AQ bs j=2):PE (dlB bs) j<(dlK bs bs.length).length :=
 (gS.1 (Acc.2 ⟨h,hk,rfl⟩)).1
theorem Tk (h:j<bs.length) (hk:AQ bs j=11):PE (cpB bs) j<(cpK bs bs.length).length :=
 (gS.1 (AiZ.2 ⟨h,hk,rfl⟩)).1
theorem Aax (p:Nat→Bool) {i j:Nat} (hi:p i=true) (hj:p j=true) (h:PE p i=PE p j):i=j:=by
 have h1:=(ME p (PE p i) i (i+j+1)).2 ⟨by omega,hi,rfl⟩
 have h2:=(ME p (PE p i) j (i+j+1)).2 ⟨by omega,hj,h.symm⟩
 rw [h1] at h2
 exact Option.some.inj h2
theorem Aja (h:(dlK bs bs.length)[t]?=some i):Oe bs (t+1) i=(bs.length:Int)+(t:Int):=by
 obtain ⟨_,h2,h3⟩:=Acc.1 h
 unfold Oe
 rw [if_pos ⟨h2,by omega⟩,h3]
theorem AfJ (h:(dlK bs bs.length)[t]?=some i) (hj:j≠i):Oe bs (t+1) j=Oe bs t j:=by
 obtain ⟨_,h2,h3⟩:=Acc.1 h
 unfold Oe
 by_cases hk:AQ bs j=2
 ·by_cases hr:PE (dlB bs) j<t
  ·rw [if_pos ⟨hk,by omega⟩,if_pos ⟨hk,hr⟩]
  ·have hne:PE (dlB bs) j≠t:=fun e=>hj (Aax (dlB bs) (by simp [dlB,hk]) (by simp [dlB,h2]) (by rw [e,h3]))
   rw [if_neg (fun hc=>by have:=hc.2;omega),if_neg (fun hc=>hr hc.2)]
 ·rw [if_neg (fun hc=>hk hc.1),if_neg (fun hc=>hk hc.1)]
theorem Ace (bs:List Bk) (n:Nat) (f:Nat→Int):tab n (Ez f 0)=tab n (Oe bs 0):=IT fun j _=>by
 unfold Oe Ez
 rw [if_neg (by omega),if_neg (by omega)]
theorem Acf (bs:List Bk):tab bs.length (Oe bs (dlK bs bs.length).length)=tab bs.length (Og bs 0):=IT fun j hj=>by
 unfold Og Oe
 by_cases hk:AQ bs j=2
 ·rw [if_pos hk,if_pos ⟨hk,Acd hj hk⟩]
 ·rw [if_neg hk,if_neg (by omega),if_neg (fun hc=>hk hc.1)]
theorem Ajb (h:(cpK bs bs.length)[t]?=some i):Og bs (t+1) i=(bs.length:Int)+((dlK bs bs.length).length:Int)+2*(t:Int):=by
 obtain ⟨_,h2,h3⟩:=AiZ.1 h
 unfold Og
 rw [if_neg (by omega),if_pos ⟨h2,by omega⟩,h3]
theorem AfK (h:(cpK bs bs.length)[t]?=some i) (hj:j≠i):Og bs (t+1) j=Og bs t j:=by
 obtain ⟨_,h2,h3⟩:=AiZ.1 h
 unfold Og
 by_cases hd:AQ bs j=2
 ·rw [if_pos hd,if_pos hd]
 ·rw [if_neg hd,if_neg hd]
  by_cases hk:AQ bs j=11
  ·by_cases hr:PE (cpB bs) j<t
   ·rw [if_pos ⟨hk,by omega⟩,if_pos ⟨hk,hr⟩]
   ·have hne:PE (cpB bs) j≠t:=fun e=>hj (Aax (cpB bs) (by simp [cpB,hk]) (by simp [cpB,h2]) (by rw [e,h3]))
    rw [if_neg (fun hc=>by have:=hc.2;omega),if_neg (fun hc=>hr hc.2)]
  ·rw [if_neg (fun hc=>hk hc.1),if_neg (fun hc=>hk hc.1)]
theorem AfL (bs:List Bk):tab bs.length (Og bs (cpK bs bs.length).length)=tab bs.length (CI bs):=IT fun j hj=>by
 unfold Og CI
 by_cases hd:AQ bs j=2
 ·rw [if_pos hd,if_pos hd]
 ·rw [if_neg hd,if_neg hd]
  by_cases hk:AQ bs j=11
  ·rw [if_pos hk,if_pos ⟨hk,Tk hj hk⟩]
  ·rw [if_neg hk,if_neg (fun hc=>hk hc.1)]
theorem AfM (f g:Nat→Int) (l:List Nat):(l.flatMap fun j=>[f j,g j]).length=2*l.length:=by
 induction l with
 | nil=>rfl
 | cons x l ih =>
  simp only [List.flatMap_cons,aq,cq,List.length_nil,ih]
  omega
theorem Acg {g:Nat→Int} {l:List Nat} {s:Nat} (h:l[s]?=some i):(l.take (s+1)).flatMap (fun j=>[f j,g j])=(l.take s).flatMap (fun j=>[f j,g j])++[f i,g i]:=by
 rw [ak,h]
 simp
def cdA (ps:List Prt) (bs:List Bk) (F:List Int) (t:Nat):List Ins:=((Bb bs).take t).flatMap (fun j=>QP ps bs F j (CI bs j))
def cdB (ps:List Prt) (bs:List Bk) (F:List Int) (t:Nat):List Ins:=cdA ps bs F (Bb bs).length++((dlK bs bs.length).take t).map (mv1 bs F)
def cdC (ps:List Prt) (bs:List Bk) (F:List Int) (t:Nat):List Ins:=cdB ps bs F (dlK bs bs.length).length++((dlK bs bs.length).take t).map (mv2 bs)
section
variable {ps:List Prt} {bs:List Bk} {F:List Int} {t j:Nat}
theorem Ajc:cdB ps bs F 0=cdA ps bs F (Bb bs).length:=by unfold cdB;rw [ik,fz,av]
theorem Ajd:cdC ps bs F 0=cdB ps bs F (dlK bs bs.length).length:=by unfold cdC;rw [ik,fz,av]
theorem AfN:cdC ps bs F (dlK bs bs.length).length=Ge ps bs F:=by
 unfold cdC cdB cdA Ge
 rw [az,az,AeM]
theorem Ha (h:(Bb bs)[t]?=some j):cdA ps bs F (t+1)=cdA ps bs F t++QP ps bs F j (CI bs j):=AeP h
theorem Aje (h:(dlK bs bs.length)[t]?=some j):cdB ps bs F (t+1)=cdB ps bs F t++[mv1 bs F j]:=by
 unfold cdB
 rw [ak,h]
 simp
theorem Ajf (h:(dlK bs bs.length)[t]?=some j):cdC ps bs F (t+1)=cdC ps bs F t++[mv2 bs j]:=by
 unfold cdC
 rw [ak,h]
 simp
theorem AfO (t:Nat):(cdA ps bs F t).length≤2*t:=lT (Aiu _) (by rw [cj];omega)
theorem AfP (t:Nat):(cdB ps bs F t).length≤2*(Bb bs).length+t:=by
 unfold cdB
 have:=AfO (ps:=ps) (bs:=bs) (F:=F) (Bb bs).length
 rw [aq,ad,cj]
 omega
theorem AfQ (t:Nat):(cdC ps bs F t).length≤2*(Bb bs).length+(dlK bs bs.length).length+t:=by
 unfold cdC
 have:=AfP (ps:=ps) (bs:=bs) (F:=F) (dlK bs bs.length).length
 rw [aq,ad,cj]
 omega
theorem Ip {X:List Ins} {x:Ins} (h:Y=X++[x]):cD (Ar Vm X)++[.d (dI x.op),.d (dI x.dst),.d (dI x.a),.d (dI x.b),.d (dI x.sa),.d (dI x.sb),.d (dI x.imm)]=cD (Ar Vm Y):=by
 rw [h,Fb,←AkT]
 rfl
theorem Ajg {X:List Ins} {x y:Ins} (h:Y=X++[x,y]):cD (Ar Vm X)++([.d (dI x.op),.d (dI x.dst),.d (dI x.a),.d (dI x.b),.d (dI x.sa),.d (dI x.sb),.d (dI x.imm)]++[.d (dI y.op),.d (dI y.dst),.d (dI y.a),.d (dI y.b),.d (dI y.sa),.d (dI y.sb),.d (dI y.imm)])=cD (Ar Vm Y):=by
 rw [h,Fb,←AkT]
 rfl
theorem Ir {X:List Ins} {x:Ins} (h:Y=X++[x]):X.length+1=Y.length:=by rw [h,aq];rfl
theorem Ajh {X:List Ins} {x y:Ins} (h:Y=X++[x,y]):X.length+2=Y.length:=by rw [h,aq];rfl
theorem Aoz {xs:List Ins} {k:Nat} {y:Ins} (h:xs[k]?=some y):((cD (Ar Vm xs)).drop (k*7)).take 7=cD (Vm y):=by
 unfold cD
 rw [←List.map_drop,←List.map_take,Akq h]
end
theorem Xk (xs:List Int):∀ d∈xs.map dI,Dn d:=fun d hd=>by obtain ⟨z,_,rfl⟩:=List.mem_map.1 hd;exact .val _
theorem cI_D (xs:List Int):cI xs=cD (xs.map dI):=by simp [cI,cD,dI]
theorem Aay {t:Bool} {s:Nat} {c:C} {y:D} {ds:List D} (hc:c=.own id n) (hH:H[id]?=some (.row ty s n (cD ds))) (hy:y=.row t s n ds) (hf:t=false→∀ d∈ds,Dn d):FA t H c y:=by
 rw [hc,hy]
 exact .own hH (by simp [cD]) fun j c d h1 h2=>by
  have h3:c=.d d:=by
   simp only [cD,ag,h2,bp,Option.some.injEq] at h1
   exact h1.symm
  rw [h3]
  exact .d fun ht=>hf ht d (gM h2)
theorem YV {c:C} {y:D} {xs:List Int} (hc:c=.own id n) (hH:H[id]?=some (.row ty 1 n (cI xs))) (hn:n=xs.length) (hy:y=AM false xs):FA false H c y:=by
 subst hn
 exact Aay hc (by rw [hH,cI_D]) hy fun _ d hd=>by obtain ⟨z,_,rfl⟩:=List.mem_map.1 hd;exact .val _
theorem AkU {α:Type} {p:α→Bool} {l:List α} {k:Nat} {x:α} (h:l[k]?=some x) (hp:p x=false):l.all p=false:=List.all_eq_false.2 ⟨x,gM h,by rw [hp];exact Bool.false_ne_true⟩
theorem AfR {ps:List Prt} {bs:List Bk} {os:List Int} (h0:Av ps bs os=0):∀ {ls:List (List Int)} {st:List (Int × Nat)},AiH bs st→Vo ps bs st ls→∀ row∈Me ps bs os st ls,(∀ p∈row,Sm p LB LB)∧row.length=os.length
 | [],st,_,_,row,hr=>by cases hr
 | ins::l,st,h,ha,row,hr=>by
  obtain ⟨h1,h2⟩:=ha.head
  rcases List.mem_cons.1 (show row∈UB ps bs os st ins::Me ps bs os (CL ps bs st ins) l from hr) with rfl|hr
  ·refine ⟨fun p hp=>?_,by unfold UB;rw [ad]⟩
   obtain ⟨o,_,rfl⟩:=List.mem_map.1 hp
   exact Ec (Aam h0 h.len h.nf h1) _
  ·exact AfR h0 (YM h0 h.len h.nf h1) h2 row hr
theorem Aaz {ps:List Prt} {bs:List Bk}:∀ {ls:List (List Int)} {st:List (Int × Nat)},Aan ps bs st ls=0→Vo ps bs st ls
 | [],st,_=>Vo.nil
 | ins::l,st,h=>by
  have h':(if DK ps bs st ins=0 then Aan ps bs (CL ps bs st ins) l else DK ps bs st ins)=0:=h
  by_cases h1:DK ps bs st ins=0
  ·rw [if_pos h1] at h'
   have ih:=Aaz h'
   intro k j hj
   cases k with
   | zero=>simp only [eb,Option.some.injEq] at hj;subst hj;exact h1
   | succ k=>exact ih k j hj
  ·rw [if_neg h1] at h';exact absurd h' h1
theorem Xl {ls:List (List Int)} (h:NZ ps bs os ls=0):Av ps bs os=0∧ls.length≤256∧Vo ps bs (AO bs) ls:=by
 unfold NZ at h
 by_cases h0:Av ps bs os=0
 ·rw [if_neg (not_not_intro h0)] at h
  by_cases h1:256<ls.length
  ·rw [if_pos h1] at h;cases h
  ·rw [if_neg h1] at h
   exact ⟨h0,by omega,Aaz h⟩
 ·rw [if_pos h0] at h;exact absurd h h0
theorem Rk {rows:List (List (Int × Nat))} {k:Nat} {l:List (Int × Nat)} (h:rows[k]?=some l):((rows.map dRw).drop (k*1)).take 1=[dRw l]:=ZC h
theorem AoA (bs:List Bk) {i n:Nat} (h:i≤n):dlK bs i <+: dlK bs n:=by
 induction n with
 | zero=>rw [show i=0 by omega];exact iy _
 | succ n ih =>
  by_cases e:i=n+1
  ·rw [e];exact iy _
  ·refine (ih (by omega)).trans ?_
   rw [GW]
   split
   ·exact li _ _
   ·exact iy _
theorem AaA (hi:i<bs.length) (hk:AQ bs i=2):(AW bs)[(dlK bs i).length]?=some i:=by
 have h1:=AoA bs (i:=i+1) (n:=bs.length) hi
 rw [AeM]
 refine getElem?_pre h1 ?_
 rw [GW,if_pos hk,dt (aa _),em]
 rfl
section
variable {ps:List Prt} {bs:List Bk} {os:List Int} {st:List Iq}
def Dh (V:List Iq) (y:Bk):List Iq:=if y.kind=0 then [] else y.args.map fun a=>V[a.toNat]?.getD iZ
theorem CJ {V:List Iq} (h:y.kind≠0) {k:Nat} {a:Int} (ha:y.args[k]?=some a) {p:Iq} (hp:V[a.toNat]?=some p):(Dh V y)[k]?=some p:=by
 unfold Dh
 rw [if_neg h,ag,ha,bp,hp]
 rfl
theorem Em {V:List Iq} (hV:∀ p∈V,IwS p LB LB):∀ p∈Dh V y,IwS p LB LB:=fun p hp=>by
 unfold Dh at hp
 split at hp
 ·cases hp
 ·obtain ⟨a,_,rfl⟩:=List.mem_map.1 hp
  exact BP hV _
theorem AoB (he:Av ps bs os=0) (hs:∀ p∈st,IwS p LB LB) (hl:st.length=(AW bs).length) (hb:Gg ps bs st=false):∀ p∈rgV ps bs st,IwS p LB LB:=fun p hp=>by
 obtain ⟨i,hi⟩:=List.mem_iff_getElem?.1 hp
 have hil:=(gS.1 hi).1
 rw [YP] at hil
 obtain ⟨q,hq,_,hs⟩:=AfB he hs hl hb hil
 rw [hi] at hq
 cases hq
 exact hs
end
structure Ct where
 F:List Int
 R:List Iq
 E:List Pq
def dCt (u:Bool) (c:Ct):List D:=[AM u c.F,.row false 6 c.R.length (Ar (dIw false) c.R),.row false 3 c.E.length (Ar dyP c.E)]
def rowE (E:List Pq):D:=.row false 3 E.length (Ar dyP E)
abbrev eG (E:List Pq) (a:Int):Pq:=E[a.toNat]?.getD (0,0)
abbrev rG (R:List Iq) (a:Int):Iq:=R[a.toNat]?.getD iZ
abbrev sG (F:List Int) (a:Int):Int:=scA F a.toNat
def inK (k:Int):Bool:=decide (-62≤k∧k≤30)
def frB (f:Int):Bool:=decide (0≤f∧f≤30)
def rwB (n e f:Int):Bool:=decide (BW n e f=0)
def Vp (ps:List Prt) (F:List Int) (y:Bk) (s:Int):Bool :=
 if y.kind=0 then inK (s - QO ps (BJ y))
 else if y.kind=1 then rwB y.vn y.ve s
 else if y.kind=6 then inK (s - sG F (BJ y)+y.ve)
 else if y.kind=7 then inK (s - sG F (BJ y) - sG F (DS y))
 else if y.kind=2 then inK (s - sG F (BJ y)) && rwB y.vn y.ve s
 else if y.kind=11 then inK (s - sG F (BJ y)) && rwB y.vn y.ve s && rwB y.un y.ue s
 else y.args.all fun a=>inK (s - sG F a)
def Ex (ps:List Prt) (F:List Int) (y:Bk) (i:Nat):Bool :=
 frB (scA F i) && ((decide (y.kind=0) || y.args.all fun a=>frB (sG F a)) && Vp ps F y (scA F i))
def Nd (ps:List Prt) (R:List Iq) (y:Bk):Iq :=
 if y.kind=2 then LU (Ac y.vn 0 y.ve,Ac y.vn 0 y.ve) (rG R (BJ y)) else Bx y (Dh R y) ps
def Di (ps:List Prt) (R:List Iq) (y:Bk) (i:Nat):Bool:=iIn (Nd ps R y) (R[i]?.getD iZ)
def Cs (n e f:Int):Bool:=decide ((MJ (Ac n 0 e) f).2=0)
def ixP (b:Bool) (s:Int):Pq:=if b=true then pw (-s) else (0,0)
def mvP (F:List Int) (E:List Pq) (s a:Int):Pq:=if sG F a≤s then eG E a else GJ (eG E a) (pw (-s))
def Bu (ps:List Prt) (F:List Int) (R:List Iq) (E:List Pq) (y:Bk) (s:Int):Pq :=
 if y.kind=0 then ixP (decide (s<QO ps (BJ y))) s
 else if y.kind=1 then ixP (!Cs y.vn y.ve s) s
 else if y.kind=3∨y.kind=4 then GJ (mvP F E s (BJ y)) (mvP F E s (DS y))
 else if y.kind=5∨y.kind=10 then mvP F E s (BJ y)
 else if y.kind=8∨y.kind=9 then Md (mvP F E s (BJ y)) (mvP F E s (DS y))
 else if y.kind=6 then GJ (Dj (Nc (Ac y.vn 0 y.ve)) (eG E (BJ y))) (ixP (decide (s - sG F (BJ y)+y.ve<0)) s)
 else if y.kind=7 then GJ (GJ (GJ (Dj (Lo (rG R (BJ y))) (eG E (DS y))) (Dj (Lo (rG R (DS y))) (eG E (BJ y)))) (Dj (eG E (BJ y)) (eG E (DS y)))) (ixP (decide (s - sG F (BJ y) - sG F (DS y)<0)) s)
 else if y.kind=11 then Md (mvP F E s (BJ y)) (ixP (!Cs y.vn y.ve s || !Cs y.un y.ue s) s)
 else Md (mvP F E s (BJ y)) (ixP (!Cs y.vn y.ve s) s)
def Tl (x:Pq) (f:Int):Bool:=decide (Oz (MJ x f) (2147483647,0)≤0)
def AkV (F:List Int) (R:List Iq) (E:List Pq) (y:Bk) (i:Nat):Bool :=
 Tl (GJ (Lo (R[i]?.getD iZ)) (E[i]?.getD (0,0))) (scA F i) && (!decide (y.kind=11) || Tl (GJ (rG R (BJ y)).2 (eG E (BJ y))) (scA F i))
def LZ (ps:List Prt) (bs:List Bk) (c:Ct) (i:Nat):Int :=
 let y:=Yy bs i
 if Ex ps c.F y i=false then 1 else if Di ps c.R y i=false then 2
 else if Oz (c.E[i]?.getD (0,0)) (Bu ps c.F c.R c.E y (scA c.F i))<0 then 3 else if AkV c.F c.R c.E y i=false then 4 else 0
def upQ (x:Pq):Pq:=AiE x 62
def Ahj (x:Pq):Bool:=decide (0<Oz x (1099511627776,0))
structure Aji (bs:List Bk) (c:Ct):Prop where
 lF:c.F.length=bs.length
 lR:c.R.length=bs.length
 lE:c.E.length=bs.length
 sR:∀ p∈c.R,IwS p LB LB
 sE:∀ p∈c.E,Sm p LB LB
 nE:∀ p∈c.E,0≤gv p
theorem Gh {d:Nat} (h:∀ p∈E,Sm p n d) (a:Int):Sm (eG E a) n d:=Ec h _
theorem AoC {d:Nat} (h:∀ p∈R,IwS p n d) (a:Int):IwS (rG R a) n d:=BP h _
theorem YW (h0:0≤s) (h1:s≤30):Sm (pw (-s)) 31 30:=AbY (n:=30) (by omega) (by omega) (by decide)
theorem Avb (h0:0≤s) (h1:s≤30):gv (pw (-s))=2 ^ (65536 - s.toNat):=by rw [Rj (by omega) (by omega)];congr 1;omega
theorem UT {b:Bool} (h0:0≤s) (h1:s≤30):Sm (ixP b s) 31 30:=by
 unfold ixP
 split
 ·exact YW h0 h1
 ·exact Sm.zero _ _
theorem Ma (h0:0≤s) (h1:s≤30) (hE:∀ p∈E,Sm p LB LB) (a:Int):Sm (mvP F E s a) 8200 LB:=by
 unfold mvP
 split
 ·exact (Gh hE a).more (by decide) (by decide)
 ·exact (Sm.sum (Gh hE a) ((YW h0 h1).more (n':=LB) (d':=LB) (by decide) (by decide)) (by decide)).more (by decide) (by decide)
theorem MR {p:Pq} {d:Nat} (h:Sm p n d) {f:Int} (f0:0≤f) (f1:f≤30):Sm (MJ p f) (n+30) d:=by
 show Sm (Ac p.1 p.2 f) (n+30) d
 unfold Ac
 rw [show max (-65536) (min f 65536)=f by omega,if_neg (by omega)]
 refine Sm.mk_nf h.d h.ok.le ?_
 rw [fw,fx,show Int.natAbs 2=2 from rfl,bh]
 have h1:2 ^ f.toNat≤2 ^ 30:=ba (by decide) (by omega)
 have h2:(0:Nat)<2 ^ f.toNat:=bt _
 exact au (jq h.n h2) (gu _ h1)
theorem Tm {d:Nat} (h:IwS a n d):Sm (Lo a) n d:=h.abs.s2
theorem AaB (h0:0≤s) (h1:s≤30) (hR:∀ p∈R,IwS p LB LB) (hE:∀ p∈E,Sm p LB LB) (hv:y.kind=6→DA y.vn y.ve):Sm (Bu ps F R E y s) 40064 9000:=by
 have ix:∀ b,Sm (ixP b s) 16000 8192:=fun b=>(UT h0 h1).more (by decide) (by decide)
 have mv:∀ a,Sm (mvP F E s a) 8200 LB:=Ma h0 h1 hE
 unfold Bu
 split
 ·exact (ix _).more (by decide) (by decide)
 split
 ·exact (ix _).more (by decide) (by decide)
 split
 ·exact (Sm.sum (mv _) (mv _) (by decide)).more (by decide) (by decide)
 split
 ·exact (mv _).more (by decide) (by decide)
 split
 ·exact (Sm.max (mv _) (mv _)).more (by decide) (by decide)
 split
 ·next h=>exact (Sm.sum ((Sm.mul (Ho (hv h)).abs (Gh hE _) (by decide)).more (n':=16000) (d':=8192) (by decide) (by decide)) (ix _) (by decide)).more (by decide) (by decide)
 split
 ·have m1:∀ a b,Sm (Dj (Lo (rG R a)) (eG E b)) 8192 8192:=fun a b=>Sm.mul (Tm (AoC hR a)) (Gh hE b) (by decide)
  have m2:∀ a b,Sm (Dj (eG E a) (eG E b)) 8192 8192:=fun a b=>Sm.mul (Gh hE a) (Gh hE b) (by decide)
  have s1:=Sm.sum (m1 (BJ y) (DS y)) (m1 (DS y) (BJ y)) (by decide)
  have s2:=Sm.sum s1 ((m2 (BJ y) (DS y)).more (n':=16385) (d':=8192) (by decide) (by decide)) (by decide)
  exact (Sm.sum s2 ((UT h0 h1).more (n':=24578) (d':=8192) (by decide) (by decide)) (by decide)).more (by decide) (by decide)
 split
 ·exact (Sm.max (mv _) ((UT h0 h1).more (by decide) (by decide))).more (by decide) (by decide)
 ·exact (Sm.max (mv _) ((UT h0 h1).more (by decide) (by decide))).more (by decide) (by decide)
theorem AsC {x:Pq} (h:x.2≤GQ):gv x≤gv (upQ x)∧gv (upQ x)<gv x+2 ^ (GQ - 62)∧∃ k:Int,gv (upQ x)=k*2 ^ (GQ - 62):=by
 obtain ⟨a,b,k,c⟩:=Ux (p:=(-x.1,x.2)) (den:=62) h (by decide)
 have e:gv (upQ x) = -gv (BX (-x.1) x.2 62):=Ln _
 have f:gv (-x.1,x.2) = -gv x:=Ln x
 dsimp only at a b c
 rw [f] at a b
 rw [e]
 generalize gv (BX (-x.1) x.2 62)=w at *
 refine ⟨by omega,by omega,-k,?_⟩
 rw [c,ej]
section
variable {P:Program} {G:World→Prop} {o:Oper} {F:Frm} {H:List Ob}
theorem AsD {f:FuncId} (ho:o.op=.assign (.func f)):AU P G o F H (.one (.clo (.func f) [])) []:=BS fun b0 m a _ _ hor=>by
 refine ⟨.func (.func f) #[] #[],?_,[],rfl,AP.nil_⟩
 unfold execOp
 simp [ho,Act.eval]
end
theorem XH {k:Nat} (h:k<R.length):R[k]?=some (R[k]?.getD iZ):=by rw [gE h];rfl
theorem eg_c {k:Nat} (h:k<E.length):E[k]?=some (E[k]?.getD (0,0)):=by rw [gE h];rfl
theorem YX {k:Nat} (h:k<F.length):F[k]?=some (scA F k):=by unfold scA;rw [gE h];rfl
structure AaC (ps:List Prt) (n:Nat) (y:Bk):Prop where
 hk:y.kind=0∨y.kind=1∨y.kind=2∨y.kind=3∨y.kind=4∨y.kind=5∨y.kind=6∨y.kind=7∨y.kind=8∨y.kind=9∨y.kind=10∨y.kind=11
 a0:y.kind≠1→∃ a:Nat,y.args[0]?=some (a:Int)∧BJ y=(a:Int)∧(y.kind≠0→a<n)
 a1:(y.kind=3∨y.kind=4∨y.kind=7∨y.kind=8∨y.kind=9)→∃ a:Nat,y.args[1]?=some (a:Int)∧DS y=(a:Int)∧a<n
 all:y.kind≠0→∀ a∈y.args,0≤a∧a<(n:Int)
 len:y.args.length≤2
 port:y.kind=0→∃ (i:Nat) (p:Prt),y.args[0]?=some (i:Int)∧BJ y=(i:Int)∧ps[i]?=some p∧UM p
 sv:(y.kind=1∨y.kind=2∨y.kind=6∨y.kind=11)→DA y.vn y.ve
 su:y.kind=11→DA y.un y.ue
 cl:y.kind=11→Oz (Ac y.vn 0 y.ve) (Ac y.un 0 y.ue)≤0
theorem AfS (he:Av ps bs os=0) {i:Nat} {y:Bk} (hy:bs[i]?=some y):AaC ps bs.length y:=by
 have hac:=El he hy
 have hcg:=hac.1
 have hck:=hac.2.1
 have hlen:y.args.length≤2:=by unfold Ay at hcg hck;(repeat' split at hck) <;> omega
 refine ⟨Us he hy,fun h1=>?_,fun h2=>?_,fun h0 a ha=>?_,hlen,fun h0=>?_,fun h=>?_,fun h=>(IV he hy h).2.1,fun h=>(IV he hy h).2.2⟩
 ·have hl:1≤y.args.length:=by unfold Ay at hcg hck;(repeat' split at hck) <;> omega
  obtain ⟨a,ha⟩:∃ a,y.args[0]?=some a:=⟨_,gE (by omega)⟩
  have hb:=hac.2.2 a (gM ha)
  refine ⟨a.toNat,by rw [ha];congr 1;omega,by unfold BJ;rw [ha];show a=_;omega,fun h0=>?_⟩
  rw [show Cm ps.length bs.length y.kind=bs.length from if_neg h0] at hb
  omega
 ·have hl:2≤y.args.length:=by unfold Ay at hcg hck;(repeat' split at hck) <;> omega
  obtain ⟨a,ha⟩:∃ a,y.args[1]?=some a:=⟨_,gE (by omega)⟩
  have hb:=hac.2.2 a (gM ha)
  rw [show Cm ps.length bs.length y.kind=bs.length from if_neg (by omega)] at hb
  exact ⟨a.toNat,by rw [ha];congr 1;omega,by unfold DS;rw [ha];show a=_;omega,by omega⟩
 ·have hb:=hac.2.2 a ha
  rwa [show Cm ps.length bs.length y.kind=bs.length from if_neg h0] at hb
 ·have hl:y.args.length=1:=by rw [h0] at hck;simp [Ay] at hck;omega
  obtain ⟨a,ha⟩:∃ a,y.args[0]?=some a:=⟨_,gE (by omega)⟩
  have hb:=hac.2.2 a (gM ha)
  rw [show Cm ps.length bs.length y.kind=ps.length from if_pos h0] at hb
  obtain ⟨p,hp⟩:∃ p,ps[a.toNat]?=some p:=⟨_,gE (by omega)⟩
  exact ⟨a.toNat,p,by rw [ha];congr 1;omega,by unfold BJ;rw [ha];show a=_;omega,hp,Xa he hp⟩
 ·exact Oy he hy (by unfold Ox;rcases h with h|h|h|h <;> rw [h] <;> rfl)
theorem AfT {p:Prt} (h:ps[i]?=some p):QO ps (i:Int)=p.fr:=by unfold QO;rw [ar,h];rfl
theorem Rl (s:Int) (s0:0≤s) (s1:s≤62):CV prog An 134 [aI s] [aDy false (pw (-s)).1 (pw (-s)).2]:=by
 refine cvz func134 ntmps134 ?_
 have OF:=Fg 1 (by decide) (by decide)
 have SH:=Bj 1 0 (-s) ⟨by decide,fun h=>absurd rfl h⟩ (lT (AC (k:=2) (by decide)) (by decide)) (by omega)
 repeat' (with_reducible first|refine qq ?_|(refine Tx 0 ?_;refine gN (xAl Ak) ?_)|(refine Tx 1 ?_;refine gO (xCl func123 (OF)) <| gO xM <| gO AbX <| gO (xCl func27 (SH)) <| gZ (xSk Ab) ?_))
 exact Th
theorem Hb (n e:Int) (hs:DA n e):CV prog An 135 [.agg [dI n,dI e]] [aDy false (Ac n 0 e).1 (Ac n 0 e).2]:=by
 refine cvz func135 ntmps135 ?_
 have VA:=Uk n e
 exact AkM
theorem AsE (k:p') (h:Hd9 p'→p:=by with_reducible first|(intro Z9;refine qq ?_;exact Z9.o)|(intro Z9;refine Tx 0 ?_;refine gN xBo <| gO xA ?_;exact Z9.o)|(intro Z9;refine Tx 1 ?_;refine gO xL <| gO (xCl func135 (RV)) <| gO xM <| gO (xCl func27 (SH)) <| gN (xAl Ak) <| gZ (xSk Ab) ?_;exact Z9.o)|(intro Z9;refine Tx 2 ?_;refine gO xF <| gO xD <| gO xEq <| gO xA ?_;exact Z9.o)|fail):p:=h ⟨k⟩
theorem La (n e f:Int) (hs:DA n e) (f0:0≤f) (f1:f≤30):CV prog An 148 [.agg [dI n,dI e],aI f] [aB (Cs n e f)]:=by
 refine cvz func148 ntmps148 ?_
 have RV:=Hb n e hs
 have sm:=Ho hs
 have SH:=Bj (Ac n 0 e).1 (Ac n 0 e).2 f sm.ok sm.lz (by have:=sm.ok.1;omega)
 obtain ⟨q,hq⟩:∃ q,Ac (Ac n 0 e).1 (Ac n 0 e).2 f=q:=⟨_,rfl⟩
 rw [hq] at SH
 rw [show Cs n e f=decide (q.2=0) by unfold Cs;rw [←hq]]
 by_cases h0:q.2=0
 case pos =>
  repeat' (with_reducible first|refine AsE ?_)
  exact AN rfl (.cons_ (GI rfl ((decide_eq_true h0).symm)) .nil_)
 repeat' (with_reducible first|refine AsE ?_)
 exact AN rfl (.cons_ (GI rfl ((decide_eq_false h0).symm)) .nil_)
theorem AoD (k:p') (h:Hd9 p'→p:=by with_reducible first|(intro Z9;refine qq ?_;exact Z9.o)|(intro Z9;refine Tx 0 ?_;refine gO xA ?_;exact Z9.o)|(intro Z9;refine Tx 1 ?_;refine gO xM <| gO xGe <| gO xM ?_;(first|iterate 2 refine Jd ?_|(refine Jy xM1 ?_;refine Jy xLe ?_));refine gO xPk <| gO xA ?_;exact Z9.o)|fail):p:=h ⟨k⟩
theorem Oh (k:Int):CV prog An 129 [aI k] [aB (inK k)]:=by
 refine cvz func129 ntmps129 ?_
 by_cases cf7:k < -62
 case pos =>
  repeat' (with_reducible first|refine AoD ?_)
  exact AN rfl (.cons_ (GI rfl ((decide_eq_false (by omega)).symm)) .nil_)
 by_cases cf6:30<k
 case pos =>
  repeat' (with_reducible first|refine AoD ?_)
  exact AN rfl (.cons_ (GI rfl ((decide_eq_false (by omega)).symm)) .nil_)
 repeat' (with_reducible first|refine AoD ?_)
 exact AN rfl (.cons_ (GI rfl ((decide_eq_true (by omega)).symm)) .nil_)
theorem PK (n e f:Int):CV prog An 130 [.agg [dI n,dI e],.one (.ptr true [dI f])] [aB (rwB n e f)]:=by
 refine cvz func130 ntmps130 ?_
 have RA:=(Xj n e f).cv
 unfold rwB
 by_cases h0:BW n e f=0
 case pos =>
  rw [h0] at RA
  repeat' (with_reducible first|refine qq ?_|(refine Tx 0 ?_;refine gN xBo <| gO xA ?_)|(refine Tx 1 ?_;refine gO xL <| gO xD <| gO (xCl func52 (RA)) <| gO xMt <| gO xEx <| gO xEx <| gO xA <| gO xA ?_)|(refine Tx 2 ?_;refine gO xM <| gO (by first|exact De rfl Ag rfl (Qu rfl)|exact De rfl Ag rfl (Qu (by first|rfl|omega))|exact De rfl Ag rfl (VY (by first|assumption|omega))|exact De rfl Ag rfl rfl) <| gO xA ?_))
  exact AN rfl (.cons_ (GI rfl ((decide_eq_true h0).symm)) .nil_)
 repeat' (with_reducible first|refine qq ?_|(refine Tx 0 ?_;refine gN xBo <| gO xA ?_)|(refine Tx 1 ?_;refine gO xL <| gO xD <| gO (xCl func52 (RA)) <| gO xMt <| gO xEx <| gO xEx <| gO xA <| gO xA ?_)|(refine Tx 2 ?_;refine gO xM <| gO (by first|exact De rfl Ag rfl (VY h0)|exact De rfl Ag rfl (Qu (by first|rfl|omega))|exact De rfl Ag rfl (VY (by first|assumption|omega))|exact De rfl Ag rfl rfl) <| gO xA ?_))
 exact AN rfl (.cons_ (GI rfl ((decide_eq_false h0).symm)) .nil_)
theorem AoE (k:p') (h:Hd9 p'→p:=by with_reducible first|(intro Z9;refine qq ?_;exact Z9.o)|(intro Z9;refine Tx 0 ?_;refine gO xA ?_;exact Z9.o)|(intro Z9;refine Tx 1 ?_;refine gO xF <| gO xD <| gO xM <| gO (xIr Aa (AF hF)) <| gO xD <| gO xLt <| gO xM ?_;(first|iterate 6 refine Jd ?_|(refine Jy (xFa Ei Ax) ?_;refine Jy (xLd Ax) ?_;refine Jy xM1 ?_;refine Jy (xIr Aa (AF hF)) ?_;refine Jy (xLd Al) ?_;refine Jy xGt ?_));refine gO xPk <| gO xA ?_;exact Z9.o)|fail):p:=h ⟨k⟩
theorem Ajj (u:Bool) (c:Ct) (a:Int) {k:Nat} (a0:0≤a) (hk:k=a.toNat) (h:k<c.F.length) (hl:c.F.length≤1000000):CV prog An 128 [aI a,.one (.ptr true (dCt u c))] [aB (!frB (scA c.F a.toNat))]:=by
 refine cvz func128 ntmps128 ?_
 have hF:=YX h
 obtain rfl:k=a.toNat:=hk
 have ha:((a.toNat:Nat):Int)=a:=by omega
 rw [←ha]
 rw [ar]
 generalize a.toNat=j at *
 unfold frB
 generalize scA c.F j=z at *
 by_cases c5:z<0
 case pos =>
  repeat' (with_reducible first|refine AoE ?_)
  exact AN rfl (.cons_ (GI rfl (by rw [decide_eq_false (by omega)];rfl)) .nil_)
 by_cases c6:30<z
 case pos =>
  repeat' (with_reducible first|refine AoE ?_)
  exact AN rfl (.cons_ (GI rfl (by rw [decide_eq_false (by omega)];rfl)) .nil_)
 repeat' (with_reducible first|refine AoE ?_)
 exact AN rfl (.cons_ (GI rfl (by rw [decide_eq_true (by omega)];rfl)) .nil_)
theorem Oi (k:p') (h:Hd9 p'→p:=by with_reducible first|(intro Z9;refine Tx 0 ?_;refine gN xBo <| gN xBo <| gO xA ?_;exact Z9.o)|(intro Z9;refine Tx 2 ?_;refine gO xD <| gO xLt <| gO xM ?_;(first|iterate 2 refine Jd ?_|(refine Jy (xLd Al) ?_;refine Jy xGt ?_));refine gO xPk ?_;exact Z9.o)|fail):p:=h ⟨k⟩
theorem AoF (h:p:=by first|exact xS1 Al|exact xSk Al):p:=h
theorem Ach (k:p') (h:Hd9 p'→p:=by with_reducible first|(intro Z9;refine Tx 1 ?_;refine gO xF <| gO xD <| gO xM <| gO (xIr Aa (AF hFi)) <| gO xD <| gN (xAl BK) <| gZ AoF ?_;exact Z9.o)|fail):p:=h ⟨k⟩
theorem Rm (k:p') (h:Hd9 p'→p:=by with_reducible first|(intro Z9;refine Tx 4 ?_;refine gO xF <| gO xD <| gO xM <| gO (xIr Ap (Gc hy)) <| gO xL <| gN (xAl Cw) <| gZ (xSk BZ) ?_;exact Z9.o)|fail):p:=h ⟨k⟩
theorem RQ (k:p') (h:Hd9 p'→p:=by with_reducible first|(intro Z9;refine Tx 7 ?_;refine gO (by first|exact AsD rfl|exact ZE rfl rfl) ?_;exact Z9.o)|(intro Z9;refine Tx 8 ?_;refine gO (by first|exact xMf [(2,0,none)]|exact CD rfl (by repeat' first|exact BM rfl rfl|refine AX rfl rfl rfl ?_)) <| gO xA ?_;exact Z9.o)|(intro Z9;refine Tx 9 ?_;refine gO xF <| gO xD ?_;exact Z9.o)|(intro Z9;refine Tx 10 ?_;refine gO xEq <| gO xA ?_;exact Z9.o)|fail):p:=h ⟨k⟩
theorem RT (k:p') (h:Hd9 p'→p:=by with_reducible first|(intro Z9;refine Tx 5 ?_;refine gO xF <| gO xD <| gO xNe <| gO xM ?_;(first|iterate 4 refine Jd ?_|(refine Jy (xFa EZ Ax) ?_;refine Jy (xLd Ax) ?_;refine Jy (by first|exact xMf [(1,0,none)]|exact CD rfl (by repeat' first|exact BM rfl rfl|refine AX rfl rfl rfl ?_)) ?_;refine Jy (by exact AiB TX func127 CTN HC) ?_));refine gO xPk ?_;exact Z9.o)|fail):p:=h ⟨k⟩
theorem Ajk (h:p:=by first|exact xIr Aa (AF hFi)|exact xIr Aa (AF hF0)):p:=h
theorem Aci (k:p') (h:Hd9 p'→p:=by with_reducible first|(intro Z9;refine Tx 1 ?_;refine gO xF <| gO xD <| gO xM <| gO Ajk <| gO xD <| gN (xAl BK) <| gZ AoF ?_;exact Z9.o)|fail):p:=h ⟨k⟩
theorem AsF (k:p') (h:Hd9 p'→p:=by with_reducible first|(intro Z9;refine BB (id:=19) AJ (by kernel_rfl) ?_;refine gP xM <| gP xD <| gP xF <| gP xD <| gP xF <| gP xD <| gP (xIr Aa (AF hA0)) <| gP xD <| gP Ajk <| gP xD <| gP xSb <| gP (xCc func129 SHC (args:=[_]) rfl) <| gP xM ?_;(first|iterate 4 refine Kd ?_|(refine Ky xM1 ?_;refine Ky (xFa Hy BE) ?_;refine Ky (xLa BE) ?_;refine Ky (xCc func130 (PK y.vn y.ve s) (args:=[_]) rfl) ?_));refine gP xPk <| gP xA ?_;refine Ke ?_;exact Z9.o)|fail):p:=h ⟨k⟩
theorem AoG (k:p') (h:Hd9 p'→p:=by with_reducible first|(intro Z9;refine BB (id:=21) AJ (by kernel_rfl) ?_;refine gP xM <| gP xD <| gP xF <| gP xD <| gP xF <| gP xD <| gP (xIr Aa (AF hA0)) <| gP xD <| gP Ajk <| gP xD <| gP xSb <| gP (xCc func129 SHC (args:=[_]) rfl) <| gP xM ?_;(first|iterate 4 refine Kd ?_|(refine Ky xM1 ?_;refine Ky (xFa Hy BE) ?_;refine Ky (xLa BE) ?_;refine Ky (xCc func130 RWC (args:=[_]) rfl) ?_));refine gP xPk <| gP xM ?_;(first|iterate 4 refine Kd ?_|(refine Ky xM1 ?_;refine Ky (xFa Hz BE) ?_;refine Ky (xLa BE) ?_;refine Ky (xCc func130 (PK y.un y.ue s) (args:=[_]) rfl) ?_));refine gP xPk <| gP xA ?_;refine Ke ?_;exact Z9.o)|fail):p:=h ⟨k⟩
theorem AsG (h:p:=by first|exact xIr Aa (AF hz)|exact xIr Aa (AF hFm)):p:=h
theorem AsH (k:p') (h:Hd9 p'→p:=by with_reducible first|(intro Z9;refine Tx 24 ?_;refine gO AsG <| gO xD <| gO xA ?_;exact Z9.o)|(intro Z9;refine BB (id:=25) AJ (by kernel_rfl) ?_;refine gP xM <| gP xD <| gP xF <| gP xD <| gP xM <| gP AsG <| gP xD <| gP xSb <| gP (xCc func129 SHC (args:=[_]) rfl) <| gP AbX ?_;refine Ke ?_;exact Z9.o)|fail):p:=h ⟨k⟩
theorem DN (h:p:=by
 exact AN rfl (.cons_ (GI rfl (rfl)) .nil_)):p:=h
theorem AoH (h:p:=by first|exact xIr Aa (AF hFi)|exact xIr Aa (AF hF0)|exact xIr Aa (AF hF1)):p:=h
theorem YY (t u:Bool) {ps:List Prt} {bs:List Bk} (os:List Int) (c:Ct) (i:Nat) {y:Bk} (hy:bs[i]?=some y) (B:AaC ps bs.length y) (hF:c.F.length=bs.length) (hn:bs.length≤1000000) (hpn:ps.length≤1000000):CV prog An 60 [aDg t ps bs os,.agg (dCt u c),aI (i:Int)] [aB (Ex ps c.F y i)]:=by
 refine cvz func60 ntmps60 ?_
 have hil:=(gS.1 hy).1
 have hFi:=YX (F:=c.F) (k:=i) (by omega)
 obtain ⟨s,hs⟩:∃ s,scA c.F i=s:=⟨_,rfl⟩
 rw [hs] at hFi
 have hBl:=B.len
 by_cases c5:s<0
 case pos =>
  have hb:Ex ps c.F y i=false:=by unfold Ex;rw [hs,show frB s=false from decide_eq_false (by omega)];rfl
  rw [hb]
  repeat' (with_reducible first|refine qq ?_|refine Oi ?_|refine Ach ?_|(refine Tx 3 ?_;refine gO xA ?_))
  exact DN
 by_cases c6:30<s
 case pos =>
  have hb:Ex ps c.F y i=false:=by unfold Ex;rw [hs,show frB s=false from decide_eq_false (by omega)];rfl
  rw [hb]
  repeat' (with_reducible first|refine qq ?_|refine Oi ?_|refine Ach ?_|(refine Tx 3 ?_;refine gO xA ?_))
  exact DN
 have hfr:frB s=true:=decide_eq_true (by omega)
 by_cases k0:y.kind=0
 case pos =>
  obtain ⟨j,p,hA0,ha0,hp,P⟩:=B.port k0
  have f0:=P.f0
  have f1:=P.f1
  have hjl:=(gS.1 hp).1
  have hL0:=(gS.1 hA0).1
  have hb:Ex ps c.F y i=inK (s - p.fr):=by unfold Ex Vp;rw [hs,hfr,decide_eq_true k0,if_pos k0,ha0,AfT hp];rfl
  rw [hb]
  repeat' (with_reducible first|refine qq ?_|refine Oi ?_|refine Ach ?_|refine Rm ?_|(refine Tx 5 ?_;refine gO xF <| gO xD <| gO xNe <| gO xM ?_;(first|iterate 3 refine Jd ?_|(refine Jy (xFa EZ Ax) ?_;refine Jy (xLd Ax) ?_;refine Jy (by exact CD rfl (by repeat' first|exact BM rfl rfl|refine AX rfl rfl rfl ?_)) ?_));refine Jd ?_;refine gO xPk ?_)|refine RQ ?_|(refine BB (id:=11) AJ (by kernel_rfl) ?_;refine gP xM <| gP xD <| gP xF <| gP xD <| gP xF <| gP xD <| gP (xIr Aa (AF hA0)) <| gP xD <| gP (xIr BG (Gz hp)) <| gP xF <| gP xD <| gP xSb <| gP (xCc func129 (Oh (s - p.fr)) (args:=[_]) rfl) <| gP xA ?_;refine Ke ?_))
  exact DN
 have HC:∀ a∈y.args,CV prog An 128 [aI a,.one (.ptr true (dCt u c))] [aB ((fun a:Int=>!frB (scA c.F a.toNat)) a)]:=fun a ha=>by have h1:=B.all k0 a ha;exact Ajj u c a h1.1 rfl (by omega) (by omega)
 have CTN:∀ vs,CV prog (AkC prog 128 vs (fun a:Int=>!frB (scA c.F a.toNat)) y.args) 127 [.one (AM t y.args),.one (.val (.func (.func 128) #[] vs.toArray))] [aB (y.args.any (fun a:Int=>!frB (scA c.F a.toNat)))]:=fun vs=>YH func128 (by kernel_rfl) rfl t vs _ y.args (by omega)
 have hna:y.args.any (fun a:Int=>!frB (scA c.F a.toNat))=!y.args.all (fun a=>frB (sG c.F a)):=(List.not_all_eq_any_not ..).symm
 by_cases hall:y.args.all (fun a=>frB (sG c.F a))=true
 case neg =>
  rw [ci] at hall
  rw [hall] at hna
  simp only [hna,fp] at CTN
  have hb:Ex ps c.F y i=false:=by unfold Ex;rw [hs,hfr,hall,decide_eq_false k0];rfl
  rw [hb]
  repeat' (with_reducible first|refine qq ?_|refine Oi ?_|refine Ach ?_|refine Rm ?_|refine RT ?_|(refine Tx 6 ?_;refine gO xA ?_))
  exact DN
 rw [hall] at hna
 simp only [hna,ee] at CTN
 have hb:Ex ps c.F y i=Vp ps c.F y s:=by unfold Ex;rw [hs,hfr,hall];simp
 rw [hb]
 have hall:∀ a∈y.args,0≤sG c.F a∧sG c.F a≤30:=fun a ha=>of_decide_eq_true (List.all_eq_true.1 hall a ha)
 clear hb hna
 by_cases k1:y.kind=1
 case pos =>
  rw [show Vp ps c.F y s=rwB y.vn y.ve s by unfold Vp;rw [if_neg k0,if_pos k1]]
  repeat' (with_reducible first|refine qq ?_|refine Oi ?_|refine Ach ?_|refine Rm ?_|refine RT ?_|refine RQ ?_|(refine Tx 12 ?_;refine gO xEq <| gO xA ?_)|(refine Tx 13 ?_;refine gO xM <| gO xF <| gO xL <| gO (xCc func130 (PK y.vn y.ve s) (args:=[_]) rfl) <| gO xA ?_))
  exact DN
 by_cases k6:y.kind=6
 case pos =>
  obtain ⟨a,hA0,ha0,hl0⟩:=B.a0 (by omega)
  have hL0:=(gS.1 hA0).1
  have hl0:=hl0 k0
  have hF0:=YX (F:=c.F) (k:=a) (by omega)
  have hr0:=hall a (gM hA0)
  obtain ⟨r0,hq0⟩:∃ r,scA c.F a=r:=⟨_,rfl⟩
  rw [show sG c.F ((a:Nat):Int)=r0 by unfold sG;rw [ar];exact hq0] at hr0
  rw [hq0] at hF0
  have hg0:sG c.F (BJ y)=r0:=by rw [ha0];unfold sG;rw [ar];exact hq0
  have hv:=B.sv (by omega)
  unfold DA at hv
  rw [show Vp ps c.F y s=inK (s - r0+y.ve) by unfold Vp;rw [if_neg k0,if_neg k1,if_pos k6,hg0]]
  repeat' (with_reducible first|refine qq ?_|refine Oi ?_|refine Aci ?_|refine Rm ?_|refine RT ?_|refine RQ ?_|(refine Tx 12 ?_;refine gO xEq <| gO xA ?_)|(refine Tx 14 ?_;refine gO xEq <| gO xA ?_)|(refine BB (id:=15) AJ (by kernel_rfl) ?_;refine gP xM <| gP xD <| gP xF <| gP xD <| gP xF <| gP xD <| gP (xIr Aa (AF hA0)) <| gP xD <| gP Ajk <| gP xD <| gP xSb <| gP xF <| gP xF <| gP xD <| gP xAd <| gP (xCc func129 (Oh (s - r0+y.ve)) (args:=[_]) rfl) <| gP xA ?_;refine Ke ?_))
  exact DN
 by_cases k7:y.kind=7
 case pos =>
  obtain ⟨a,hA0,ha0,hl0⟩:=B.a0 (by omega)
  have hL0:=(gS.1 hA0).1
  have hl0:=hl0 k0
  have hF0:=YX (F:=c.F) (k:=a) (by omega)
  have hr0:=hall a (gM hA0)
  obtain ⟨r0,hq0⟩:∃ r,scA c.F a=r:=⟨_,rfl⟩
  rw [show sG c.F ((a:Nat):Int)=r0 by unfold sG;rw [ar];exact hq0] at hr0
  rw [hq0] at hF0
  have hg0:sG c.F (BJ y)=r0:=by rw [ha0];unfold sG;rw [ar];exact hq0
  obtain ⟨b,hA1,ha1,hl1⟩:=B.a1 (by omega)
  have hL1:=(gS.1 hA1).1
  have hF1:=YX (F:=c.F) (k:=b) (by omega)
  have hr1:=hall b (gM hA1)
  obtain ⟨r1,hq1⟩:∃ r,scA c.F b=r:=⟨_,rfl⟩
  rw [show sG c.F ((b:Nat):Int)=r1 by unfold sG;rw [ar];exact hq1] at hr1
  rw [hq1] at hF1
  have hg1:sG c.F (DS y)=r1:=by rw [ha1];unfold sG;rw [ar];exact hq1
  rw [show Vp ps c.F y s=inK (s - r0 - r1) by unfold Vp;rw [if_neg k0,if_neg k1,if_neg k6,if_pos k7,hg0,hg1]]
  repeat' (with_reducible first|refine qq ?_|refine Oi ?_|(refine Tx 1 ?_;refine gO xF <| gO xD <| gO xM <| gO AoH <| gO xD <| gN (xAl BK) <| gZ AoF ?_)|refine Rm ?_|refine RT ?_|refine RQ ?_|(refine Tx 12 ?_;refine gO xEq <| gO xA ?_)|(refine Tx 14 ?_;refine gO xEq <| gO xA ?_)|(refine Tx 16 ?_;refine gO xEq <| gO xA ?_)|(refine BB (id:=17) AJ (by kernel_rfl) ?_;refine gP xM <| gP xD <| gP xF <| gP xD <| gP xF <| gP xD <| gP (xIr Aa (AF hA0)) <| gP xD <| gP AoH <| gP xD <| gP xSb <| gP xF <| gP xD <| gP xF <| gP xD <| gP (xIr Aa (AF hA1)) <| gP xD <| gP AoH <| gP xD <| gP xSb <| gP (xCc func129 (Oh (s - r0 - r1)) (args:=[_]) rfl) <| gP xA ?_;refine Ke ?_))
  exact DN
 by_cases k2:y.kind=2
 case pos =>
  obtain ⟨a,hA0,ha0,hl0⟩:=B.a0 (by omega)
  have hL0:=(gS.1 hA0).1
  have hl0:=hl0 k0
  have hF0:=YX (F:=c.F) (k:=a) (by omega)
  have hr0:=hall a (gM hA0)
  obtain ⟨r0,hq0⟩:∃ r,scA c.F a=r:=⟨_,rfl⟩
  rw [show sG c.F ((a:Nat):Int)=r0 by unfold sG;rw [ar];exact hq0] at hr0
  rw [hq0] at hF0
  have hg0:sG c.F (BJ y)=r0:=by rw [ha0];unfold sG;rw [ar];exact hq0
  rw [show Vp ps c.F y s=(inK (s - r0) && rwB y.vn y.ve s) by unfold Vp;rw [if_neg k0,if_neg k1,if_neg k6,if_neg k7,if_pos k2,hg0]]
  have SHC:=Oh (s - r0)
  cases hq:inK (s - r0)
  case false =>
   rw [hq] at SHC
   repeat' (with_reducible first|refine qq ?_|refine Oi ?_|refine Aci ?_|refine Rm ?_|refine RT ?_|refine RQ ?_|(refine Tx 12 ?_;refine gO xEq <| gO xA ?_)|(refine Tx 14 ?_;refine gO xEq <| gO xA ?_)|(refine Tx 16 ?_;refine gO xEq <| gO xA ?_)|(refine Tx 18 ?_;refine gO xEq <| gO xA ?_)|refine AsF ?_)
   exact AN rfl (.cons_ (GI rfl (by rw [im])) .nil_)
  case true =>
   rw [hq] at SHC
   repeat' (with_reducible first|refine qq ?_|refine Oi ?_|refine Aci ?_|refine Rm ?_|refine RT ?_|refine RQ ?_|(refine Tx 12 ?_;refine gO xEq <| gO xA ?_)|(refine Tx 14 ?_;refine gO xEq <| gO xA ?_)|(refine Tx 16 ?_;refine gO xEq <| gO xA ?_)|(refine Tx 18 ?_;refine gO xEq <| gO xA ?_)|refine AsF ?_)
   exact AN rfl (.cons_ (GI rfl (by rw [eg])) .nil_)
 by_cases k11:y.kind=11
 case pos =>
  obtain ⟨a,hA0,ha0,hl0⟩:=B.a0 (by omega)
  have hL0:=(gS.1 hA0).1
  have hl0:=hl0 k0
  have hF0:=YX (F:=c.F) (k:=a) (by omega)
  have hr0:=hall a (gM hA0)
  obtain ⟨r0,hq0⟩:∃ r,scA c.F a=r:=⟨_,rfl⟩
  rw [show sG c.F ((a:Nat):Int)=r0 by unfold sG;rw [ar];exact hq0] at hr0
  rw [hq0] at hF0
  have hg0:sG c.F (BJ y)=r0:=by rw [ha0];unfold sG;rw [ar];exact hq0
  rw [show Vp ps c.F y s=(inK (s - r0) && rwB y.vn y.ve s && rwB y.un y.ue s) by unfold Vp;rw [if_neg k0,if_neg k1,if_neg k6,if_neg k7,if_neg k2,if_pos k11,hg0]]
  have SHC:=Oh (s - r0)
  have RWC:=PK y.vn y.ve s
  cases hq:inK (s - r0)
  case false =>
   rw [hq] at SHC
   repeat' (with_reducible first|refine qq ?_|refine Oi ?_|refine Aci ?_|refine Rm ?_|refine RT ?_|refine RQ ?_|(refine Tx 12 ?_;refine gO xEq <| gO xA ?_)|(refine Tx 14 ?_;refine gO xEq <| gO xA ?_)|(refine Tx 16 ?_;refine gO xEq <| gO xA ?_)|(refine Tx 18 ?_;refine gO xEq <| gO xA ?_)|(refine Tx 20 ?_;refine gO xEq <| gO xA ?_)|refine AoG ?_)
   exact AN rfl (.cons_ (GI rfl (by rw [im,im])) .nil_)
  case true =>
   rw [hq] at SHC
   cases hq2:rwB y.vn y.ve s
   case false =>
    rw [hq2] at RWC
    repeat' (with_reducible first|refine qq ?_|refine Oi ?_|refine Aci ?_|refine Rm ?_|refine RT ?_|refine RQ ?_|(refine Tx 12 ?_;refine gO xEq <| gO xA ?_)|(refine Tx 14 ?_;refine gO xEq <| gO xA ?_)|(refine Tx 16 ?_;refine gO xEq <| gO xA ?_)|(refine Tx 18 ?_;refine gO xEq <| gO xA ?_)|(refine Tx 20 ?_;refine gO xEq <| gO xA ?_)|refine AoG ?_)
    exact AN rfl (.cons_ (GI rfl (by rw [eg,im])) .nil_)
   case true =>
    rw [hq2] at RWC
    repeat' (with_reducible first|refine qq ?_|refine Oi ?_|refine Aci ?_|refine Rm ?_|refine RT ?_|refine RQ ?_|(refine Tx 12 ?_;refine gO xEq <| gO xA ?_)|(refine Tx 14 ?_;refine gO xEq <| gO xA ?_)|(refine Tx 16 ?_;refine gO xEq <| gO xA ?_)|(refine Tx 18 ?_;refine gO xEq <| gO xA ?_)|(refine Tx 20 ?_;refine gO xEq <| gO xA ?_)|refine AoG ?_)
    exact AN rfl (.cons_ (GI rfl (by rw [eg,eg])) .nil_)
 have hb:Vp ps c.F y s=y.args.all fun a=>inK (s - sG c.F a):=by unfold Vp;rw [if_neg k0,if_neg k1,if_neg k6,if_neg k7,if_neg k2,if_neg k11]
 rw [hb]
 repeat' (with_reducible first|refine qq ?_|refine Oi ?_|refine Ach ?_|refine Rm ?_|refine RT ?_|refine RQ ?_|(refine Tx 12 ?_;refine gO xEq <| gO xA ?_)|(refine Tx 14 ?_;refine gO xEq <| gO xA ?_)|(refine Tx 16 ?_;refine gO xEq <| gO xA ?_)|(refine Tx 18 ?_;refine gO xEq <| gO xA ?_)|(refine Tx 20 ?_;refine gO xEq <| gO xA ?_)|(refine Tx 22 ?_;refine gO xF <| gO xD <| gO xN <| gO xM ?_))
 refine AY (Bz 3) (Aq (fun n Fr H=>∃ k:Nat,k≤y.args.length∧n=y.args.length - k∧(y.args.take k).all (fun a=>inK (s - sG c.F a))=true∧Fr=ofL [(4,vr 1),(7,vr 2),(9,.one (.clo (.func 129) [])),(150,vd (AM t y.args)),(151,vi y.args.length),(152,vi ((k:Nat)))]∧H=[.box 26 [.d (CU t ps),.d (Dw t bs),.d (AM t os)],.box 30 [.d (AM u c.F),.d (.row false 6 c.R.length (Ar (dIw false) c.R)),.d (.row false 3 c.E.length (Ar dyP c.E))],.box 3 [.d (.val (.int .i64 s))]]) (n0:=y.args.length) ⟨0,af _,rfl,rfl,rfl,rfl⟩ ?_)
 clear HC CTN
 rintro n Fr H ⟨k,hk,rfl,hal,rfl,rfl⟩
 by_cases hlt:k<y.args.length
 case pos =>
  obtain ⟨z,hz⟩:∃ z,y.args[k]?=some z:=⟨_,gE hlt⟩
  have hzm:=gM hz
  have hzb:=B.all k0 z hzm
  have hzr:=hall z hzm
  obtain ⟨m,rfl⟩:∃ m:Nat,z=(m:Int):=⟨z.toNat,by omega⟩
  have hFm:=YX (F:=c.F) (k:=m) (by omega)
  rw [show sG c.F ((m:Nat):Int)=scA c.F m by unfold sG;rw [ar]] at hzr
  have SHC:=Oh (s - scA c.F m)
  cases hq:inK (s - scA c.F m)
  case false =>
   rw [hq] at SHC
   repeat' (with_reducible first|refine qq ?_|(refine Tx 23 ?_;refine gO xLt ?_)|refine AsH ?_|(refine Tx 26 ?_;refine gO xA ?_))
   exact AN rfl (.cons_ (GI rfl ((AkU (p:=fun a=>inK (s - sG c.F a)) hz hq).symm)) .nil_)
  rw [hq] at SHC
  repeat' (with_reducible first|refine qq ?_|(refine Tx 23 ?_;refine gO xLt ?_)|refine AsH ?_|(refine Tx 27 ?_;refine gO xAd <| gO xM ?_))
  refine ⟨_,_,Bz 3,_,by omega,k+1,by omega,rfl,TW (p:=fun a=>inK (s - sG c.F a)) hz hal hq,rfl,rfl⟩
 obtain rfl:k=y.args.length:=by omega
 rw [az] at hal
 repeat' (with_reducible first|refine qq ?_|(refine Tx 23 ?_;refine gO xLt ?_)|(refine Tx 28 ?_;refine gO xA ?_))
 exact AN rfl (.cons_ (GI rfl (hal.symm)) .nil_)
theorem AoI {k:Nat} (h:k<E.length):((Ar dyP E).drop (k*3)).take 3=dyP (E[k]?.getD (0,0)):=Yt (eg_c h)
theorem AoJ {k:Nat} (h:k<R.length):((Ar (dIw false) R).drop (k*6)).take 6=dIw false (R[k]?.getD iZ):=GZ (XH h)
theorem AaD (R:List Iq) (k:Nat):rG R (k:Int)=R[k]?.getD iZ:=by unfold rG;rw [ar]
theorem Tn (E:List Pq) (k:Nat):eG E (k:Int)=E[k]?.getD (0,0):=by unfold eG;rw [ar]
theorem OG (F:List Int) (k:Nat):sG F (k:Int)=scA F k:=by unfold sG;rw [ar]
theorem zdy:([.val (.bool false),.row false 1 0 [],.val (.int .i64 0)]:List D)=dDy false 0 0:=(A.agg.inj LO).symm
theorem Ci (t u:Bool) (c:Ct) (y:Bk) (k:Nat) {r:Nat} (hk:y.args[k]?=some (r:Int)) (hr:r<c.R.length) (ha:y.args.length≤1000000) (hv:c.R.length≤1000000):CV prog An 131 [aI (k:Int),.one (.ptr true (dCt u c)),.one (.ptr true (dBk t y))] [aIw false (c.R[r]?.getD iZ)]:=by
 refine cvz func131 ntmps131 ?_
 have l1:=(gS.1 hk).1
 repeat' (with_reducible first|refine qq ?_|(refine Tx 0 ?_;refine gN (xAl Am) ?_)|(refine AE (id:=1) 9 AJ (by kernel_rfl) ?_;dsimp only [List.take,List.drop];refine gP xF <| gP xD <| gP xF <| gP xD <| gP xM <| gP (by first|exact xIr Aa (AF hk)|exact xIr Aa (AoJ hr)) <| gP xD <| gP (xIr Ah (AoJ hr)) <| gP xL ?_;refine Ke ?_;refine gZ (xSk Ae) ?_))
 exact GG
theorem Hi (k:p') (h:Hd9 p'→p:=by with_reducible first|(intro Z9;refine qq ?_;exact Z9.o)|(intro Z9;refine Tx 0 ?_;refine gN xBo <| gN xBo <| gO xA ?_;exact Z9.o)|(intro Z9;refine Tx 1 ?_;refine gO xF <| gO xD <| gO xM <| gO (by first|exact xIr Ap (Gc hy)|exact xIr Ap (hwi)) <| gO xL <| gN (xAl Cw) <| gZ (xSk BZ) ?_;exact Z9.o)|(intro Z9;refine Tx 2 ?_;refine gO (by first|exact xMf [(1,0,none),(2,0,none)]|exact CD rfl (by repeat' first|exact BM rfl rfl|refine AX rfl rfl rfl ?_)) <| gO xA ?_;exact Z9.o)|(intro Z9;refine Tx 3 ?_;refine gN (xAl Am) ?_;exact Z9.o)|(intro Z9;refine Tx 4 ?_;refine gO xF <| gO xD ?_;exact Z9.o)|(intro Z9;refine Tx 6 ?_;refine gO xEq <| gO xA ?_;exact Z9.o)|(intro Z9;refine BB (id:=29) AJ (by kernel_rfl) ?_;refine gP xL <| gP xF <| gP xD <| gP xM <| gP (xIr Ah (hwi)) <| gP xL <| gP (xCl func144 (IS)) <| gP xA ?_;refine Ke ?_;exact Z9.o)|fail):p:=h ⟨k⟩
theorem It (k:p') (h:Hd9 p'→p:=by with_reducible first|(intro Z9;refine Tx 9 ?_;refine gO xEq <| gO xA ?_;exact Z9.o)|fail):p:=h ⟨k⟩
theorem Lp (k:p') (h:Hd9 p'→p:=by with_reducible first|(intro Z9;refine Tx 11 ?_;refine gO xEq <| gO xA ?_;exact Z9.o)|fail):p:=h ⟨k⟩
theorem Lq (h:p:=by
 exact this.more (by decide) (by decide)):p:=h
theorem AsI (h:p:=by first|exact xCl func135 (RV)|exact xCl func135 (RU)):p:=h
theorem YZ (t u:Bool) {ps:List Prt} {bs:List Bk} (os:List Int) (c:Ct) (i:Nat) {y:Bk} (hy:bs[i]?=some y) (B:AaC ps bs.length y) (hR:c.R.length=bs.length) (sR:∀ p∈c.R,IwS p LB LB) (hn:bs.length≤1000000) (hpn:ps.length≤1000000):CV prog An 61 [aDg t ps bs os,.agg (dCt u c),aI (i:Int)] [aB (Di ps c.R y i)]:=by
 refine cvz func61 ntmps61 ?_
 have hil:=(gS.1 hy).1
 have hBl:=B.len
 have wi:=(BP sR i).more LBx LBx
 have hwi:=AoJ (R:=c.R) (k:=i) (by omega)
 rcases B.hk with h|h|h|h|h|h|h|h|h|h|h|h
 ·
  obtain ⟨j,pp,hA0,ha0,hp,PS⟩:=B.port h
  have l3:=(gS.1 hp).1
  have hL0:=(gS.1 hA0).1
  have f0:=PS.l0
  have f1:=PS.le
  have f2:=PS.h1
  have f3:=PS.f0
  have f4:=PS.f1
  have IN:=WX pp.lo pp.hi (by omega) (by omega)
  have UN:=Rl pp.fr (by omega) (by omega)
  have SC:=IZ (DJ [(pp.lo,0),(pp.hi,0)]) (pw (-pp.fr)) (Im (LW pp.lo (by omega) (by decide)) (LW pp.hi (by omega) (by decide))).2.2 ((YW f3 f4).more (by decide) (by decide))
  rw [show OA (DJ [(pp.lo,0),(pp.hi,0)]) (pw (-pp.fr))=Rf pp from PS.scale] at SC
  have hb:Nd ps c.R y=Rf pp:=by unfold Nd Bx;rw [if_neg (by omega),if_pos h,hA0];simp [hp]
  have ws:IwS (Rf pp) 20000 20000:=PS.iw.more (by decide) (by decide)
  unfold Di
  rw [hb]
  have IS:=BU _ _ ws wi
  repeat' (with_reducible first|refine Hi ?_|(refine AE (id:=7) 9 AJ (by kernel_rfl) ?_;dsimp only [List.take,List.drop];refine gP xF <| gP xD <| gP xF <| gP xD <| gP (by first|exact xIr Aa (hwi)|exact xIr Aa (AF hA0)) <| gP xD <| gP (by first|exact xIr BG (hwi)|exact xIr BG (Gz hp)) <| gP xL <| gQ (xAl Qo) ?_;refine Ke ?_;refine gZ (xSk Ny) ?_)|(refine AE (id:=8) 9 AJ (by kernel_rfl) ?_;dsimp only [List.take,List.drop];refine gP xF <| gP xD <| gP xF <| gP xD <| gP (xCl func133 (IN)) <| gP xF <| gP xD <| gP (xCl func134 (UN)) <| gP (xCl func132 (SC)) ?_;refine Ke ?_;refine gZ (xSk Ae) ?_))
  exact DN
 ·
  have hv:=B.sv (by omega)
  have RV:=Hb y.vn y.ve hv
  have sv:=(Ho hv).more LBx LBx
  have PT:=Dz (Ac y.vn 0 y.ve) sv.ok sv.lz
  have hb:Nd ps c.R y=((Ac y.vn 0 y.ve),(Ac y.vn 0 y.ve)):=by unfold Nd Bx FV;simp [h]
  have ws:IwS (((Ac y.vn 0 y.ve),(Ac y.vn 0 y.ve))) 20000 20000:=by
   have:=Io (y:=y) (Em (y:=y) sR) (fun h2=>B.sv (by omega)) (fun h2=>B.su h2) (by omega)
   rw [show FV y (Dh c.R y)=((Ac y.vn 0 y.ve),(Ac y.vn 0 y.ve)) by unfold FV;simp [h]] at this
   exact Lq
  unfold Di
  rw [hb]
  have IS:=BU _ _ ws wi
  repeat' (with_reducible first|refine Hi ?_|refine It ?_|(refine Tx 10 ?_;refine gO xF <| gO xL <| gO (xCl func135 (RV)) <| gO (xCl func79 (PT)) <| gZ (xSk Ae) ?_))
  exact DN
 ·
  obtain ⟨a,hA0,ha0,hl0⟩:=B.a0 (by omega)
  have hl0:=hl0 (by omega)
  have hL0:=(gS.1 hA0).1
  obtain ⟨P,hP⟩:∃ P,c.R[a]?.getD iZ=P:=⟨_,rfl⟩
  have sp:=(BP sR a).more LBx LBx
  have A0:=Ci t u c y 0 hA0 (by omega) (by omega) (by omega)
  have hj0:(Dh c.R y)[0]?=some P:=CJ (by omega) hA0 (by rw [ar,←hP];exact XH (by omega))
  rw [hP] at sp A0
  have hv:=B.sv (by omega)
  have RV:=Hb y.vn y.ve hv
  have sv:=(Ho hv).more LBx LBx
  have PT:=Dz (Ac y.vn 0 y.ve) sv.ok sv.lz
  have C:=Rd ((Ac y.vn 0 y.ve),(Ac y.vn 0 y.ve)) P (.pt sv) sp
  have hb:Nd ps c.R y=LU ((Ac y.vn 0 y.ve),(Ac y.vn 0 y.ve)) P:=by unfold Nd;rw [if_pos h,ha0,AaD,hP]
  have ws:IwS (LU ((Ac y.vn 0 y.ve),(Ac y.vn 0 y.ve)) P) 20000 20000:=(IwS.pt (Ho hv)).hull (hP ▸ BP sR a) |>.more LBx LBx
  unfold Di
  rw [hb]
  have IS:=BU _ _ ws wi
  repeat' (with_reducible first|refine Hi ?_|refine It ?_|refine Lp ?_|(refine Tx 12 ?_;refine gO xF <| gO xL <| gO (xCl func135 (RV)) <| gO (xCl func79 (PT)) <| gO xM <| gO (xCc func131 A0 (args:=[_]) rfl) <| gO (xCl func82 (C)) <| gZ (xSk Ae) ?_))
  exact DN
 ·
  obtain ⟨a,hA0,ha0,hl0⟩:=B.a0 (by omega)
  have hl0:=hl0 (by omega)
  have hL0:=(gS.1 hA0).1
  obtain ⟨P,hP⟩:∃ P,c.R[a]?.getD iZ=P:=⟨_,rfl⟩
  have sp:=(BP sR a).more LBx LBx
  have A0:=Ci t u c y 0 hA0 (by omega) (by omega) (by omega)
  have hj0:(Dh c.R y)[0]?=some P:=CJ (by omega) hA0 (by rw [ar,←hP];exact XH (by omega))
  rw [hP] at sp A0
  obtain ⟨b,hA1,ha1,hl1⟩:=B.a1 (by omega)
  have hL1:=(gS.1 hA1).1
  obtain ⟨Q,hQ⟩:∃ Q,c.R[b]?.getD iZ=Q:=⟨_,rfl⟩
  have sq:=(BP sR b).more LBx LBx
  have A1:=Ci t u c y 1 hA1 (by omega) (by omega) (by omega)
  have hj1:(Dh c.R y)[1]?=some Q:=CJ (by omega) hA1 (by rw [ar,←hQ];exact XH (by omega))
  rw [hQ] at sq A1
  have C:=UH P Q sp sq
  have hb:Nd ps c.R y=AkD P Q:=by unfold Nd Bx FV;simp [h,hj0,hj1]
  have ws:IwS (AkD P Q) 20000 20000:=by
   have:=Io (y:=y) (Em (y:=y) sR) (fun h2=>B.sv (by omega)) (fun h2=>B.su h2) (by omega)
   rw [show FV y (Dh c.R y)=AkD P Q by unfold FV;simp [h,hj0,hj1]] at this
   exact Lq
  unfold Di
  rw [hb]
  have IS:=BU _ _ ws wi
  repeat' (with_reducible first|refine Hi ?_|refine It ?_|refine Lp ?_|(refine Tx 13 ?_;refine gO xEq <| gO xA ?_)|(refine Tx 14 ?_;refine gO xM <| gO (xCc func131 A0 (args:=[_]) rfl) <| gO xM <| gO (xCc func131 A1 (args:=[_]) rfl) <| gO (xCl func136 (C)) <| gZ (xSk Ae) ?_))
  exact DN
 ·
  obtain ⟨a,hA0,ha0,hl0⟩:=B.a0 (by omega)
  have hl0:=hl0 (by omega)
  have hL0:=(gS.1 hA0).1
  obtain ⟨P,hP⟩:∃ P,c.R[a]?.getD iZ=P:=⟨_,rfl⟩
  have sp:=(BP sR a).more LBx LBx
  have A0:=Ci t u c y 0 hA0 (by omega) (by omega) (by omega)
  have hj0:(Dh c.R y)[0]?=some P:=CJ (by omega) hA0 (by rw [ar,←hP];exact XH (by omega))
  rw [hP] at sp A0
  obtain ⟨b,hA1,ha1,hl1⟩:=B.a1 (by omega)
  have hL1:=(gS.1 hA1).1
  obtain ⟨Q,hQ⟩:∃ Q,c.R[b]?.getD iZ=Q:=⟨_,rfl⟩
  have sq:=(BP sR b).more LBx LBx
  have A1:=Ci t u c y 1 hA1 (by omega) (by omega) (by omega)
  have hj1:(Dh c.R y)[1]?=some Q:=CJ (by omega) hA1 (by rw [ar,←hQ];exact XH (by omega))
  rw [hQ] at sq A1
  have C:=Aap P Q sp sq
  have hb:Nd ps c.R y=AnV P Q:=by unfold Nd Bx FV;simp [h,hj0,hj1]
  have ws:IwS (AnV P Q) 20000 20000:=by
   have:=Io (y:=y) (Em (y:=y) sR) (fun h2=>B.sv (by omega)) (fun h2=>B.su h2) (by omega)
   rw [show FV y (Dh c.R y)=AnV P Q by unfold FV;simp [h,hj0,hj1]] at this
   exact Lq
  unfold Di
  rw [hb]
  have IS:=BU _ _ ws wi
  repeat' (with_reducible first|refine Hi ?_|refine It ?_|refine Lp ?_|(refine Tx 13 ?_;refine gO xEq <| gO xA ?_)|(refine Tx 15 ?_;refine gO xEq <| gO xA ?_)|(refine Tx 16 ?_;refine gO xM <| gO (xCc func131 A0 (args:=[_]) rfl) <| gO xM <| gO (xCc func131 A1 (args:=[_]) rfl) <| gO (xCl func137 (C)) <| gZ (xSk Ae) ?_))
  exact DN
 ·
  obtain ⟨a,hA0,ha0,hl0⟩:=B.a0 (by omega)
  have hl0:=hl0 (by omega)
  have hL0:=(gS.1 hA0).1
  obtain ⟨P,hP⟩:∃ P,c.R[a]?.getD iZ=P:=⟨_,rfl⟩
  have sp:=(BP sR a).more LBx LBx
  have A0:=Ci t u c y 0 hA0 (by omega) (by omega) (by omega)
  have hj0:(Dh c.R y)[0]?=some P:=CJ (by omega) hA0 (by rw [ar,←hP];exact XH (by omega))
  rw [hP] at sp A0
  have C:=UG P sp
  have hb:Nd ps c.R y=AiF P:=by unfold Nd Bx FV;simp [h,hj0]
  have ws:IwS (AiF P) 20000 20000:=by
   have:=Io (y:=y) (Em (y:=y) sR) (fun h2=>B.sv (by omega)) (fun h2=>B.su h2) (by omega)
   rw [show FV y (Dh c.R y)=AiF P by unfold FV;simp [h,hj0]] at this
   exact Lq
  unfold Di
  rw [hb]
  have IS:=BU _ _ ws wi
  repeat' (with_reducible first|refine Hi ?_|refine It ?_|refine Lp ?_|(refine Tx 13 ?_;refine gO xEq <| gO xA ?_)|(refine Tx 15 ?_;refine gO xEq <| gO xA ?_)|(refine Tx 17 ?_;refine gO xEq <| gO xA ?_)|(refine Tx 19 ?_;refine gO xEq <| gO xA ?_)|(refine Tx 20 ?_;refine gO xM <| gO (xCc func131 A0 (args:=[_]) rfl) <| gO (xCl func139 (C)) <| gZ (xSk Ae) ?_))
  exact DN
 ·
  obtain ⟨a,hA0,ha0,hl0⟩:=B.a0 (by omega)
  have hl0:=hl0 (by omega)
  have hL0:=(gS.1 hA0).1
  obtain ⟨P,hP⟩:∃ P,c.R[a]?.getD iZ=P:=⟨_,rfl⟩
  have sp:=(BP sR a).more LBx LBx
  have A0:=Ci t u c y 0 hA0 (by omega) (by omega) (by omega)
  have hj0:(Dh c.R y)[0]?=some P:=CJ (by omega) hA0 (by rw [ar,←hP];exact XH (by omega))
  rw [hP] at sp A0
  have hv:=B.sv (by omega)
  have RV:=Hb y.vn y.ve hv
  have sv:=(Ho hv).more LBx LBx
  have C:=IZ P (Ac y.vn 0 y.ve) sp sv
  have hb:Nd ps c.R y=OA P (Ac y.vn 0 y.ve):=by unfold Nd Bx FV;simp [h,hj0]
  have ws:IwS (OA P (Ac y.vn 0 y.ve)) 20000 20000:=by
   have:=Io (y:=y) (Em (y:=y) sR) (fun h2=>B.sv (by omega)) (fun h2=>B.su h2) (by omega)
   rw [show FV y (Dh c.R y)=OA P (Ac y.vn 0 y.ve) by unfold FV;simp [h,hj0]] at this
   exact Lq
  unfold Di
  rw [hb]
  have IS:=BU _ _ ws wi
  repeat' (with_reducible first|refine Hi ?_|refine It ?_|refine Lp ?_|(refine Tx 13 ?_;refine gO xEq <| gO xA ?_)|(refine Tx 15 ?_;refine gO xEq <| gO xA ?_)|(refine Tx 17 ?_;refine gO xEq <| gO xA ?_)|(refine Tx 19 ?_;refine gO xEq <| gO xA ?_)|(refine Tx 21 ?_;refine gO xEq <| gO xA ?_)|(refine Tx 23 ?_;refine gO xEq <| gO xA ?_)|(refine AE (id:=24) 6 AJ (by kernel_rfl) ?_;dsimp only [List.take,List.drop];refine gP xM <| gP (xCc func131 A0 (args:=[_]) rfl) <| gP xF <| gP xL <| gP (xCl func135 (RV)) <| gP (xCl func132 (C)) ?_;refine Ke ?_;refine gZ (xSk Ae) ?_))
  exact DN
 ·
  obtain ⟨a,hA0,ha0,hl0⟩:=B.a0 (by omega)
  have hl0:=hl0 (by omega)
  have hL0:=(gS.1 hA0).1
  obtain ⟨P,hP⟩:∃ P,c.R[a]?.getD iZ=P:=⟨_,rfl⟩
  have sp:=(BP sR a).more LBx LBx
  have A0:=Ci t u c y 0 hA0 (by omega) (by omega) (by omega)
  have hj0:(Dh c.R y)[0]?=some P:=CJ (by omega) hA0 (by rw [ar,←hP];exact XH (by omega))
  rw [hP] at sp A0
  obtain ⟨b,hA1,ha1,hl1⟩:=B.a1 (by omega)
  have hL1:=(gS.1 hA1).1
  obtain ⟨Q,hQ⟩:∃ Q,c.R[b]?.getD iZ=Q:=⟨_,rfl⟩
  have sq:=(BP sR b).more LBx LBx
  have A1:=Ci t u c y 1 hA1 (by omega) (by omega) (by omega)
  have hj1:(Dh c.R y)[1]?=some Q:=CJ (by omega) hA1 (by rw [ar,←hQ];exact XH (by omega))
  rw [hQ] at sq A1
  have C:=UK P Q sp sq
  have hb:Nd ps c.R y=AkE P Q:=by unfold Nd Bx FV;simp [h,hj0,hj1]
  have ws:IwS (AkE P Q) 20000 20000:=by
   have:=Io (y:=y) (Em (y:=y) sR) (fun h2=>B.sv (by omega)) (fun h2=>B.su h2) (by omega)
   rw [show FV y (Dh c.R y)=AkE P Q by unfold FV;simp [h,hj0,hj1]] at this
   exact Lq
  unfold Di
  rw [hb]
  have IS:=BU _ _ ws wi
  repeat' (with_reducible first|refine Hi ?_|refine It ?_|refine Lp ?_|(refine Tx 13 ?_;refine gO xEq <| gO xA ?_)|(refine Tx 15 ?_;refine gO xEq <| gO xA ?_)|(refine Tx 17 ?_;refine gO xEq <| gO xA ?_)|(refine Tx 18 ?_;refine gO xM <| gO (xCc func131 A0 (args:=[_]) rfl) <| gO xM <| gO (xCc func131 A1 (args:=[_]) rfl) <| gO (xCl func138 (C)) <| gZ (xSk Ae) ?_))
  exact DN
 ·
  obtain ⟨a,hA0,ha0,hl0⟩:=B.a0 (by omega)
  have hl0:=hl0 (by omega)
  have hL0:=(gS.1 hA0).1
  obtain ⟨P,hP⟩:∃ P,c.R[a]?.getD iZ=P:=⟨_,rfl⟩
  have sp:=(BP sR a).more LBx LBx
  have A0:=Ci t u c y 0 hA0 (by omega) (by omega) (by omega)
  have hj0:(Dh c.R y)[0]?=some P:=CJ (by omega) hA0 (by rw [ar,←hP];exact XH (by omega))
  rw [hP] at sp A0
  obtain ⟨b,hA1,ha1,hl1⟩:=B.a1 (by omega)
  have hL1:=(gS.1 hA1).1
  obtain ⟨Q,hQ⟩:∃ Q,c.R[b]?.getD iZ=Q:=⟨_,rfl⟩
  have sq:=(BP sR b).more LBx LBx
  have A1:=Ci t u c y 1 hA1 (by omega) (by omega) (by omega)
  have hj1:(Dh c.R y)[1]?=some Q:=CJ (by omega) hA1 (by rw [ar,←hQ];exact XH (by omega))
  rw [hQ] at sq A1
  have C:=UI P Q sp sq
  have hb:Nd ps c.R y=AkF P Q:=by unfold Nd Bx FV;simp [h,hj0,hj1]
  have ws:IwS (AkF P Q) 20000 20000:=by
   have:=Io (y:=y) (Em (y:=y) sR) (fun h2=>B.sv (by omega)) (fun h2=>B.su h2) (by omega)
   rw [show FV y (Dh c.R y)=AkF P Q by unfold FV;simp [h,hj0,hj1]] at this
   exact Lq
  unfold Di
  rw [hb]
  have IS:=BU _ _ ws wi
  repeat' (with_reducible first|refine Hi ?_|refine It ?_|refine Lp ?_|(refine Tx 13 ?_;refine gO xEq <| gO xA ?_)|(refine Tx 15 ?_;refine gO xEq <| gO xA ?_)|(refine Tx 17 ?_;refine gO xEq <| gO xA ?_)|(refine Tx 19 ?_;refine gO xEq <| gO xA ?_)|(refine Tx 21 ?_;refine gO xEq <| gO xA ?_)|(refine Tx 23 ?_;refine gO xEq <| gO xA ?_)|(refine Tx 25 ?_;refine gO xEq <| gO xA ?_)|(refine Tx 26 ?_;refine gO xM <| gO (xCc func131 A0 (args:=[_]) rfl) <| gO xM <| gO (xCc func131 A1 (args:=[_]) rfl) <| gO (xCl func141 (C)) <| gZ (xSk Ae) ?_))
  exact DN
 ·
  obtain ⟨a,hA0,ha0,hl0⟩:=B.a0 (by omega)
  have hl0:=hl0 (by omega)
  have hL0:=(gS.1 hA0).1
  obtain ⟨P,hP⟩:∃ P,c.R[a]?.getD iZ=P:=⟨_,rfl⟩
  have sp:=(BP sR a).more LBx LBx
  have A0:=Ci t u c y 0 hA0 (by omega) (by omega) (by omega)
  have hj0:(Dh c.R y)[0]?=some P:=CJ (by omega) hA0 (by rw [ar,←hP];exact XH (by omega))
  rw [hP] at sp A0
  obtain ⟨b,hA1,ha1,hl1⟩:=B.a1 (by omega)
  have hL1:=(gS.1 hA1).1
  obtain ⟨Q,hQ⟩:∃ Q,c.R[b]?.getD iZ=Q:=⟨_,rfl⟩
  have sq:=(BP sR b).more LBx LBx
  have A1:=Ci t u c y 1 hA1 (by omega) (by omega) (by omega)
  have hj1:(Dh c.R y)[1]?=some Q:=CJ (by omega) hA1 (by rw [ar,←hQ];exact XH (by omega))
  rw [hQ] at sq A1
  have C:=UJ P Q sp sq
  have hb:Nd ps c.R y=AiG P Q:=by unfold Nd Bx FV;simp [h,hj0,hj1]
  have ws:IwS (AiG P Q) 20000 20000:=by
   have:=Io (y:=y) (Em (y:=y) sR) (fun h2=>B.sv (by omega)) (fun h2=>B.su h2) (by omega)
   rw [show FV y (Dh c.R y)=AiG P Q by unfold FV;simp [h,hj0,hj1]] at this
   exact Lq
  unfold Di
  rw [hb]
  have IS:=BU _ _ ws wi
  repeat' (with_reducible first|refine Hi ?_|refine It ?_|refine Lp ?_|(refine Tx 13 ?_;refine gO xEq <| gO xA ?_)|(refine Tx 15 ?_;refine gO xEq <| gO xA ?_)|(refine Tx 17 ?_;refine gO xEq <| gO xA ?_)|(refine Tx 19 ?_;refine gO xEq <| gO xA ?_)|(refine Tx 21 ?_;refine gO xEq <| gO xA ?_)|(refine Tx 23 ?_;refine gO xEq <| gO xA ?_)|(refine Tx 25 ?_;refine gO xEq <| gO xA ?_)|(refine Tx 27 ?_;refine gO xEq <| gO xA ?_)|(refine Tx 28 ?_;refine gO xM <| gO (xCc func131 A0 (args:=[_]) rfl) <| gO xM <| gO (xCc func131 A1 (args:=[_]) rfl) <| gO (xCl func142 (C)) <| gZ (xSk Ae) ?_))
  exact DN
 ·
  obtain ⟨a,hA0,ha0,hl0⟩:=B.a0 (by omega)
  have hl0:=hl0 (by omega)
  have hL0:=(gS.1 hA0).1
  obtain ⟨P,hP⟩:∃ P,c.R[a]?.getD iZ=P:=⟨_,rfl⟩
  have sp:=(BP sR a).more LBx LBx
  have A0:=Ci t u c y 0 hA0 (by omega) (by omega) (by omega)
  have hj0:(Dh c.R y)[0]?=some P:=CJ (by omega) hA0 (by rw [ar,←hP];exact XH (by omega))
  rw [hP] at sp A0
  have C:=UL P sp
  have hb:Nd ps c.R y=YI P:=by unfold Nd Bx FV;simp [h,hj0]
  have ws:IwS (YI P) 20000 20000:=by
   have:=Io (y:=y) (Em (y:=y) sR) (fun h2=>B.sv (by omega)) (fun h2=>B.su h2) (by omega)
   rw [show FV y (Dh c.R y)=YI P by unfold FV;simp [h,hj0]] at this
   exact Lq
  unfold Di
  rw [hb]
  have IS:=BU _ _ ws wi
  repeat' (with_reducible first|refine Hi ?_|refine It ?_|refine Lp ?_|(refine Tx 13 ?_;refine gO xEq <| gO xA ?_)|(refine Tx 15 ?_;refine gO xEq <| gO xA ?_)|(refine Tx 17 ?_;refine gO xEq <| gO xA ?_)|(refine Tx 19 ?_;refine gO xEq <| gO xA ?_)|(refine Tx 21 ?_;refine gO xEq <| gO xA ?_)|(refine Tx 22 ?_;refine gO xM <| gO (xCc func131 A0 (args:=[_]) rfl) <| gO (xCl func140 (C)) <| gZ (xSk Ae) ?_))
  exact DN
 ·
  obtain ⟨a,hA0,ha0,hl0⟩:=B.a0 (by omega)
  have hl0:=hl0 (by omega)
  have hL0:=(gS.1 hA0).1
  obtain ⟨P,hP⟩:∃ P,c.R[a]?.getD iZ=P:=⟨_,rfl⟩
  have sp:=(BP sR a).more LBx LBx
  have A0:=Ci t u c y 0 hA0 (by omega) (by omega) (by omega)
  have hj0:(Dh c.R y)[0]?=some P:=CJ (by omega) hA0 (by rw [ar,←hP];exact XH (by omega))
  rw [hP] at sp A0
  have hv:=B.sv (by omega)
  have RV:=Hb y.vn y.ve hv
  have sv:=(Ho hv).more LBx LBx
  have hu:=B.su h
  have RU:=Hb y.un y.ue hu
  have su:=(Ho hu).more LBx LBx
  have C:=WY P (Ac y.vn 0 y.ve) (Ac y.un 0 y.ue) sp sv su (B.cl h)
  have hb:Nd ps c.R y=YJ P (Ac y.vn 0 y.ve) (Ac y.un 0 y.ue):=by unfold Nd Bx FV;simp [h,hj0]
  have ws:IwS (YJ P (Ac y.vn 0 y.ve) (Ac y.un 0 y.ue)) 20000 20000:=by
   have:=Io (y:=y) (Em (y:=y) sR) (fun h2=>B.sv (by omega)) (fun h2=>B.su h2) (by omega)
   rw [show FV y (Dh c.R y)=YJ P (Ac y.vn 0 y.ve) (Ac y.un 0 y.ue) by unfold FV;simp [h,hj0]] at this
   exact Lq
  unfold Di
  rw [hb]
  have IS:=BU _ _ ws wi
  repeat' (with_reducible first|refine Hi ?_|refine It ?_|refine Lp ?_|(refine Tx 13 ?_;refine gO xEq <| gO xA ?_)|(refine Tx 15 ?_;refine gO xEq <| gO xA ?_)|(refine Tx 17 ?_;refine gO xEq <| gO xA ?_)|(refine Tx 19 ?_;refine gO xEq <| gO xA ?_)|(refine Tx 21 ?_;refine gO xEq <| gO xA ?_)|(refine Tx 23 ?_;refine gO xEq <| gO xA ?_)|(refine Tx 25 ?_;refine gO xEq <| gO xA ?_)|(refine Tx 27 ?_;refine gO xEq <| gO xA ?_)|(refine FC (id:=5) 12 [(12,11)] AJ (by kernel_rfl) ?_;dsimp only [List.take,List.drop];refine gP xM <| gP (xCc func131 A0 (args:=[_]) rfl) <| gP xF <| gP xL <| gP AsI <| gP xF <| gP xL <| gP AsI <| gP (xCl func143 (C)) <| gP xMt <| gP (by exact Es rfl rfl rfl) <| gP xEx ?_;refine Ke ?_;refine gZ (xSk Ae) ?_))
  exact DN
end Go.Proofs.YtjlkgfeepocjfaaGreatDoor
