/- What the proofs of this claim share, part 10. No conditions. -/
import Derived.Test.YtmdfjbpggbhgnaaGreatDoorZt9
import Derived.Test.YtmdfjbpggbhgnaaGreatDoorZt6
import Derived.Test.YtmdfjbpggbhgnaaGreatDoorZt3
import Derived.Defers
import Derived.Recover
import Derived.Deep.RegionHeld3
import Derived.Test.YtmdfjbpggbhgnaaGreatDoorRows
import Derived.Laws.AppendOwnNone
import Derived.Laws.OwnMore
set_option maxRecDepth 100000
set_option maxHeartbeats 8000000
set_option linter.unusedVariables false
set_option linter.unusedSimpArgs false
set_option linter.unusedSectionVars false
namespace Go.Proofs.YtmdfjbpggbhgnaaGreatDoor
open Go.RowKit
section
variable (P:Program) (G:World→Prop)
def PnOk (o:Oper) (F:Frm) (H:List Ob) (chain:List PanicEntry):Prop :=
 ∀ (b0:Nat) (m:Mm) (a:Act),m.H=H→Cx b0 m→G m.w→b0≤m.w.heap.size→Adj m F a o →
  ∀ (K:Act→World→Prop) (Q:Exit→Act→World→Prop),(∀ w',Below m.w.heap.size m.w w'→Q (.panic chain) a w')→o.wp P a m.w K Q
def CVP (f:FuncId) (args:List A) (chain:List PanicEntry):Prop :=
 ∀ (w:World) (S:Eu) (vs:List Value),G w→(∀ t b,S t b→b<w.heap.size)→Bv (EN w S) args vs →
  Calls P f vs.toArray w fun e w'=>e=.panicked chain∧Below w.heap.size w w'
end
section
variable {P:Program} {G:World→Prop} {N:Nat}
def Abt (md:Region.Mode) (ops:Array Oper) (p:Nat):Nat→Nat→Bool
 | 0,_=>false
 | n+1,i=>match ops[i]? with
  | none=>false
  | some o=>o.after.any fun e=>Region.binds md e && (Nat.beq e.on p || Abt md ops p n e.on)
section
variable (P G)
def ChP (ops:Array Oper) (p:Nat) (chain:List PanicEntry):Nat→List Oper→Frm→List Ob→Prop
 | _,[],_,_=>True
 | i,o::l,F,H=>o.guard=none∧((Abt .any ops p ops.size i=true∧ChP ops p chain (i+1) l (F.put o.dst .any) H)∨(i=p∧PnOk P G o F H chain∧ChP ops p chain (i+1) l (F.put o.dst .any) H) ∨
   (Nat.beq i p=false∧∃ x,Bs P G o F H x []∧ChP ops p chain (i+1) l (F.put o.dst x) H))
end
def fgt (l:List Oper) (F:Frm):Frm:=fun t=>match l.any (fun o=>match o.dst with|some d=>Nat.beq d t|none=>false) with|true=>.any|false=>F t
structure HInvP (b0 N:Nat) (w0:World) (S0:SD) (ops:Array Oper) (p:Nat) (Fs:Nat→Frm) (H:List Ob) (listed:Array Bool) (a:Act) (m:Mm):Prop where
 H:m.H=H
 cx:Cx b0 m
 tot:Tot m
 frame:∀ t,(∀ (i:Nat) (o:Oper),ops[i]?=some o→listed.getD i true=false→o.dst≠some t)→FG m (Fs ops.size t) (a.tmps.getD t undef)
 size:a.tmps.size=N
 defers:a.defers=S0.ds
 below:Below b0 w0 m.w
 base:b0≤w0.heap.size
 S:∀ b,m.S false b→S0 false b∨b0≤b
 T:m.S true=S0 true
 ls:listed.size=ops.size
 un:∀ n i,(i=p∨Abt .any ops p n i=true)→i<ops.size→listed.getD i true=false
end
def AfV (g:Nat):Value:=.pointer (some ⟨g,0,none⟩)
def cloV (fc:FuncId) (g1 g2 g3:Nat):Deferred:={ target:=.fn (.func fc) #[AfV g1,AfV g2,AfV g3],args:=#[] }
abbrev pin3 (i1 i2 i3 g1 g2 g3:Nat):X:=.pin [(i1,g1),(i2,g2),(i3,g3)]
def CWD (P:Program) (G:World→Prop) (N:Nat) (fc:FuncId) (i1 i2 i3:Nat) (c:Code) (F:Frm) (H:List Ob) (Q QD:UO):Prop :=
 ∀ (b0:Nat) (w0:World) (S0:SD) (a:Act) (m:Mm),(∀ w',Below b0 w0 w'→G w')→S0.ds=[]→m.H=H→St b0 N w0 S0 F a m →
  c.wp P (fun e a w=>∃ F' m',m'.w=w∧((St b0 N w0 S0 F' a m'∧Q e F' m'.H)∨∃ g1 g2 g3,St b0 N w0 ⟨S0.S,[cloV fc g1 g2 g3]⟩ F' a m'∧F' N=pin3 i1 i2 i3 g1 g2 g3∧QD e F' m'.H)) a m.w
section
variable {P:Program} {G:World→Prop} {o:Oper} {F:Frm} {H:List Ob}
theorem PR {id:Nat} {ty:TypeId} {ds:List D} (hH:H[id]?=some (.box ty (ds.map C.d))):Lk true H (.one (.ref id 0 none)) (.one (.ptr true ds)) :=
 .one (.ref rfl hH (by simp) fun j c d hc hd=>by
  simp only [List.drop_zero,List.getElem?_map,hd,Option.map_some,Option.some.injEq] at hc
  subst hc
  exact .d fun h=>by cases h)
theorem xMf (rs:List (Nat × Nat × Option Nat)) {fn:Fn} {caps:Array Operand} (ho:o.op=.makeFunc fn #[] caps:=by with_unfolding_all exact rfl) (hc:caps.toList.map F.ev=rs.map (fun p=>X.one (.ref p.1 p.2.1 p.2.2)):=by with_unfolding_all exact rfl):Bs P G o F H (.one (.clo fn rs)) [] :=
 Ah ho ⟨by have:=congrArg List.length hc;simpa using this,fun j x p hx hp=>by
  have h1:=congrArg (fun l=>l[j]?) hc
  simp only [List.getElem?_map,hx,hp,Option.map_some,Option.some.injEq] at h1
  exact h1⟩
theorem xCc {f : FuncId} {fn : Func} {cd : Code} {r : Operand} {xs : Array Operand} {ts : Array TypeId} {rs : List (Nat × Nat × Option Nat)} {l args cargs res : List A} {x : X} (h1 : P.funcs[f]? = some fn) (h : CV P G f l res) (hl : l = args ++ cargs) (h2 : (fn.name == "runtime.NumGoroutine") = false := by kernel_rfl) (h3 : fn.body = some cd := by with_unfolding_all exact rfl)
  (ho:o.op=.call { callee:=.value r,args:=xs,argTypes:=ts }:=by with_unfolding_all exact rfl) (hr:F.ev r=.one (.clo (.func f) rs):=by with_unfolding_all exact rfl)
  (ha:Bv (fun x y=>Lk true H (F.ev x) y) xs.toList args:=by with_unfolding_all first|((repeat' first|exact AC rfl rfl|refine Ay rfl rfl ?_ ?_|refine SA rfl rfl ?_|refine SE rfl rfl ?_|exact Db rfl (fun h=>by cases h)|exact cexp_n rfl rfl|exact cexp_e rfl rfl|refine IO rfl rfl rfl ?_) <;> fail)|fail)
  (hcl:Bv (fun (p:Nat × Nat × Option Nat) y=>Lk true H (.one (.ref p.1 p.2.1 p.2.2)) y) rs cargs:=by with_unfolding_all first|((repeat' first|exact AC rfl rfl|refine Ay rfl rfl ?_ ?_|exact PR rfl) <;> fail)|fail)
  (hx:Adk res=x:=by with_unfolding_all exact rfl):Bs P G o F H x []:=hx ▸ TV ho hr h1 h2 h3 (hl ▸ h) ha hcl
end
def UQ (x:Int) (dx:Nat) (y:Int) (dy:Nat):Int:=sgI (x*2 ^ (max dx dy - dx) - y*2 ^ (max dx dy - dy))
theorem Fi (x:Int) (k:Nat):sgI (x*2 ^ k)=sgI x:=by
 have hp:(0:Int)<2 ^ k:=Int.pow_pos (by decide)
 unfold sgI
 by_cases h:x=0
 ·subst h;simp
 ·have h1:¬ x*2 ^ k=0:=by
   intro h0
   rcases Int.mul_eq_zero.1 h0 with h2|h2
   ·exact h h2
   ·omega
  rw [if_neg h,if_neg h1]
  by_cases h2:x<0
  ·rw [if_pos h2,if_pos (Int.mul_neg_of_neg_of_pos h2 hp)]
  ·have:=Int.mul_nonneg (show 0≤x by omega) (Int.le_of_lt hp)
   rw [if_neg h2,if_neg (by omega)]
theorem Aad {x y:Int} (h:sgI x<sgI y):sgI (x - y) = -1:=by
 have:x<y:=by
  unfold sgI at h
  split at h <;> split at h <;> (try split at h) <;> (try split at h) <;> omega
 unfold sgI
 rw [if_neg (by omega),if_pos (by omega)]
theorem Aee {x y:Int} (h:sgI y<sgI x):sgI (x - y)=1:=by
 have:=Aad h
 have h2:y<x:=by
  unfold sgI at h
  split at h <;> split at h <;> (try split at h) <;> (try split at h) <;> omega
 unfold sgI
 rw [if_neg (by omega),if_neg (by omega)]
theorem SJ (x:Int):sgI (-x) = -sgI x:=by
 unfold sgI
 by_cases h:x=0
 ·subst h;rfl
 ·by_cases h2:x<0
  ·rw [if_neg (by omega),if_neg (by omega),if_neg h,if_pos h2];rfl
  ·rw [if_neg (by omega),if_pos (by omega),if_neg h,if_neg h2]
theorem SL (x:Int) (k:Nat):((x.natAbs*2 ^ k:Nat):Int)=(if x<0 then -(x*2 ^ k) else x*2 ^ k):=by
 have e:((x.natAbs*2 ^ k:Nat):Int)=(x.natAbs:Int)*2 ^ k:=by simp
 rw [e]
 by_cases h:x<0
 ·rw [if_pos h,show (x.natAbs:Int) = -x by omega,Int.neg_mul]
 ·rw [if_neg h,show (x.natAbs:Int)=x by omega]
theorem Mk (x:Int) : -1≤sgI x∧sgI x≤1:=by
 unfold sgI
 split
 ·omega
 ·split <;> omega
theorem Abu {v v2:Value} {x y:Int} {dx dy lo1 lo2 m:Nat} {w:World} (D1:DyR w lo1 m v x dx) (D2:DyR w lo2 m v2 y dy) (hm:m≤w.heap.size) (l1:(Ad x.natAbs).length≤50000) (l2:(Ad y.natAbs).length≤50000) :
  Calls Tryz.prog 56 #[v,v2] w fun e w'=>∃ u1 u2 D,e=.returned (.tuple #[.bool (decide (x<0)),u1,.bool (decide (y<0)),u2,.int .i64 (D:Int)]) ∧
   WdR w' w'.heap.size u1 (x.natAbs*2 ^ (max dx dy - dx))∧WdR w' w'.heap.size u2 (y.natAbs*2 ^ (max dx dy - dy))∧Below w.heap.size w w':=by
 have hd1:=D1.bound.1
 have hd2:=D2.bound.1
 obtain ⟨nb1,A1,L1,c1,rfl,HD1⟩:=D1.form
 obtain ⟨nb2,A2,L2,c2,rfl,HD2⟩:=D2.form
 have b0:Below w.heap.size w ((w.alloc (.cells #[.bool nb1,.slice A1 L1 c1,.int .i64 (dx:Int)] 43)).alloc (.cells #[.bool nb2,.slice A2 L2 c2,.int .i64 (dy:Int)] 43)):=Aq (Aq (Below.refl _ _) _) _
 have r0:=(Bh.new_ w [.bool nb1,.slice A1 L1 c1,.int .i64 (dx:Int)] 43).call (al_ _ (.cells #[.bool nb2,.slice A2 L2 c2,.int .i64 (dy:Int)] 43))
 have r1:=Bh.new_ (w.alloc (.cells #[.bool nb1,.slice A1 L1 c1,.int .i64 (dx:Int)] 43)) [.bool nb2,.slice A2 L2 c2,.int .i64 (dy:Int)] 43
 rw [show (w.alloc (.cells #[.bool nb1,.slice A1 L1 c1,.int .i64 (dx:Int)] 43)).heap.size=w.heap.size+1 by simp] at r1
 have D1':=Lib.hid D1
 have D2':=Lib.hid D2
 obtain ⟨D,hD⟩:∃ D:Nat,D=max dx dy:=⟨_,rfl⟩
 have hDD:max (dx:Int) (dy:Int)=(D:Int):=by omega
 obtain ⟨p,hp⟩:∃ p:Nat,p=D - dx:=⟨_,rfl⟩
 obtain ⟨q,hq⟩:∃ q:Nat,q=D - dy:=⟨_,rfl⟩
 have hpp:(D:Int) - (dx:Int)=(p:Int):=by omega
 have hqq:(D:Int) - (dy:Int)=(q:Int):=by omega
 have hp6:p≤1000000:=by omega
 have hq6:q≤1000000:=by omega
 rw [←hD,←hp,←hq]
 clear D1 D2 hD hp hq
 go_enter Tryz.func56,Tryz.ntmps56
 go_wp2_with fail
 go_at_call 69
 refine (Es (D1'.out.below b0 hm) (by simp;omega) (by omega)).mono ?_
 rintro e w1 ⟨nb',A',L',c',he,rfl,hb1⟩
 cases he
 have s1:=r1.below hb1 (by simp)
 have b1:=b0.trans (hb1.mono (by simp;omega))
 have k0:w1.cell? ⟨w.heap.size+1,0,none⟩=some (.bool nb2):=s1.cell 0
 have k1:w1.cell? ⟨w.heap.size+1,1,none⟩=some (.slice A2 L2 c2):=s1.cell 1
 have k2:w1.cell? ⟨w.heap.size+1,2,none⟩=some (.int .i64 (dy:Int)):=s1.cell 2
 clear hb1 r0 r1 b0
 go_wp2_with fail
 go_at_call 69
 have hs1:=b1.size
 refine (Es (D2'.out.below b1 hm) (by omega) (by omega)).mono ?_
 rintro e w2 ⟨nb',A',L',c',he,rfl,hb2⟩
 cases he
 have b2:=b1.trans (hb2.mono hs1)
 have X1:=(D1'.out.below b2 hm).words
 have X2:=Lib.hid (D2'.out.below b2 hm).words
 clear hb2 b1 k0 k1 k2 s1
 go_wp2_with fail
 go_at_call 70
 have hs2:=b2.size
 refine (QV X1 (by omega) (by omega) hp6).mono ?_
 rintro e w3 ⟨v3,rfl,Y1,hb3⟩
 have b3:=b2.trans (hb3.mono hs2)
 have X2':=X2.out.below hb3 (by omega)
 obtain ⟨A3,L3,c3,rfl⟩:=Y1.form
 clear hb3 b2 X1 X2 hs2 hs1
 go_wp2_with fail
 go_at_call 70
 have hs3:=b3.size
 refine (QV X2' (by omega) (by omega) hq6).mono ?_
 rintro e w4 ⟨v4,rfl,Y2,hb4⟩
 obtain ⟨A4,L4,c4,rfl⟩:=Y2.form
 go_wp2_with fail
 refine bodyPost_ret (v:=.tuple #[.bool nb1,.slice A3 L3 c3,.bool nb2,.slice A4 L4 c4,.int .i64 (D:Int)]) (by simp [results,Tryz.results56,go_sem]) rfl ⟨.slice A3 L3 c3,.slice A4 L4 c4,D,by rw [HD1.out.1,HD2.out.1],(Y1.below hb4 (Nat.le_refl _)).more hb4.size,Y2,b3.trans (hb4.mono hs3)⟩
theorem SN {v v2:Value} {x y:Int} {dx dy lo1 lo2 m:Nat} {w:World} (D1:DyR w lo1 m v x dx) (D2:DyR w lo2 m v2 y dy) (hm:m≤w.heap.size) (l1:(Ad x.natAbs).length≤50000) (l2:(Ad y.natAbs).length≤50000) :
    Calls Tryz.prog 15 #[v,v2] w fun e w'=>e=.returned (.int .i64 (UQ x dx y dy))∧Below w.heap.size w w':=by
  have hd1:=D1.bound.1
  have hd2:=D2.bound.1
  obtain ⟨nb1,A1,L1,c1,rfl,HD1⟩:=D1.form
  obtain ⟨nb2,A2,L2,c2,rfl,HD2⟩:=D2.form
  have b0:Below w.heap.size w ((w.alloc (.cells #[.bool nb1,.slice A1 L1 c1,.int .i64 (dx:Int)] 43)).alloc (.cells #[.bool nb2,.slice A2 L2 c2,.int .i64 (dy:Int)] 43)):=Aq (Aq (Below.refl _ _) _) _
  have r0:=(Bh.new_ w [.bool nb1,.slice A1 L1 c1,.int .i64 (dx:Int)] 43).call (al_ _ (.cells #[.bool nb2,.slice A2 L2 c2,.int .i64 (dy:Int)] 43))
  have r1:=Bh.new_ (w.alloc (.cells #[.bool nb1,.slice A1 L1 c1,.int .i64 (dx:Int)] 43)) [.bool nb2,.slice A2 L2 c2,.int .i64 (dy:Int)] 43
  rw [show (w.alloc (.cells #[.bool nb1,.slice A1 L1 c1,.int .i64 (dx:Int)] 43)).heap.size=w.heap.size+1 by simp] at r1
  have D1':=D1.below b0 hm
  have D2':=D2.below b0 hm
  clear D1 D2
  go_enter Tryz.func15,Tryz.ntmps15
  go_wp2_with fail
  obtain ⟨W,hW⟩:∃ W,W=((w.alloc (.cells #[.bool nb1,.slice A1 L1 c1,.int .i64 (dx:Int)] 43)).alloc (.cells #[.bool nb2,.slice A2 L2 c2,.int .i64 (dy:Int)] 43)):=⟨_,rfl⟩
  have hWs:W.heap.size=w.heap.size+2:=by rw [hW];simp
  rw [←hW]
  rw [←hW] at b0 D1' D2' r0 r1
  clear hW
  have a0:W.cell? ⟨w.heap.size,0,none⟩=some (.bool nb1):=r0.cell 0
  have a1:W.cell? ⟨w.heap.size,1,none⟩=some (.slice A1 L1 c1):=r0.cell 1
  have a2:W.cell? ⟨w.heap.size,2,none⟩=some (.int .i64 (dx:Int)):=r0.cell 2
  have e0:W.cell? ⟨w.heap.size+1,0,none⟩=some (.bool nb2):=r1.cell 0
  have e1:W.cell? ⟨w.heap.size+1,1,none⟩=some (.slice A2 L2 c2):=r1.cell 1
  have e2:W.cell? ⟨w.heap.size+1,2,none⟩=some (.int .i64 (dy:Int)):=r1.cell 2
  have hz:w.heap.size+2≤W.heap.size:=by omega
  have hle:m≤w.heap.size+2:=by omega
  obtain ⟨sx,hsx⟩:∃ sx,sx=sgI x:=⟨_,rfl⟩
  obtain ⟨sy,hsy⟩:∃ sy,sy=sgI y:=⟨_,rfl⟩
  have HSX:=Lib.hid hsx
  have HSY:=Lib.hid hsy
  have hrx:=Mk x
  have hry:=Mk y
  rw [←hsx] at hrx
  rw [←hsy] at hry
  have hc1:∀ u:MY W (w.heap.size+2),Calls Tryz.prog 55 #[.agg #[.bool nb1,.slice A1 L1 c1,.int .i64 (dx:Int)]] u.val fun e w'=>e=.returned (.int .i64 sx)∧Below u.val.heap.size u.val w':=fun u=>by
    rw [hsx];exact Vk (D1'.below u.is hle) (Nat.le_trans hle u.fits) (by omega)
  have hc2:∀ u:MY W (w.heap.size+2),Calls Tryz.prog 55 #[.agg #[.bool nb2,.slice A2 L2 c2,.int .i64 (dy:Int)]] u.val fun e w'=>e=.returned (.int .i64 sy)∧Below u.val.heap.size u.val w':=fun u=>by
    rw [hsy];exact Vk (D2'.below u.is hle) (Nat.le_trans hle u.fits) (by omega)
  have HC1:=Lib.hid hc1
  have HC2:=Lib.hid hc2
  clear hsx hsy hc1 hc2 hWs
  refine MP (w.heap.size+2) hz (by kernel_rfl) (by kernel_rfl) ?_
  intro _
  repeat (go_big_quiet_step ((first
    | (go_at_call_of 55 (Value.agg #[.bool nb1,.slice A1 L1 c1,.int .i64 (dx:Int)]);exact He (HC1.out _))
    | (go_at_call_of 55 (Value.agg #[.bool nb2,.slice A2 L2 c2,.int .i64 (dy:Int)]);exact He (HC2.out _)))))
  refine wpQuiet_nil ?_
  intro w2 hw'
  obtain ⟨⟨_,hb2,hz2⟩,rfl⟩:=hw'
  have s0:=r0.below hb2 (by omega)
  have s1:=r1.below hb2 (by omega)
  have b2:=b0.trans (hb2.mono (by omega))
  replace D1':=D1'.below hb2 hle
  replace D2':=D2'.below hb2 hle
  clear r0 r1 b0 a0 a1 a2 e0 e1 e2 hz hb2 HC1 HC2
  have a0:w2.cell? ⟨w.heap.size,0,none⟩=some (.bool nb1):=s0.cell 0
  have a1:w2.cell? ⟨w.heap.size,1,none⟩=some (.slice A1 L1 c1):=s0.cell 1
  have a2:w2.cell? ⟨w.heap.size,2,none⟩=some (.int .i64 (dx:Int)):=s0.cell 2
  have e0:w2.cell? ⟨w.heap.size+1,0,none⟩=some (.bool nb2):=s1.cell 0
  have e1:w2.cell? ⟨w.heap.size+1,1,none⟩=some (.slice A2 L2 c2):=s1.cell 1
  have e2:w2.cell? ⟨w.heap.size+1,2,none⟩=some (.int .i64 (dy:Int)):=s1.cell 2
  by_cases hne:sx=sy
  · have hnb:(sx != sy)=false:=by rw [hne];simp
    have HNE:=Lib.hid hne
    clear hne
    go_wp2_with fail
    go_at_call 56
    refine (Abu D1' D2' (by omega) l1 l2).mono ?_
    rintro e w3 ⟨u1,u2,D,rfl,Y1,Y2,hb3⟩
    have b3:=b2.trans (hb3.mono (by omega))
    obtain ⟨A3,L3,c3,rfl⟩:=Y1.form
    obtain ⟨A4,L4,c4,rfl⟩:=Y2.form
    have hla:(Ad (x.natAbs*2 ^ (max dx dy - dx))).length≤100000:=by
      have:=Bz x.natAbs (max dx dy - dx)
      omega
    have hlb:(Ad (y.natAbs*2 ^ (max dx dy - dy))).length≤100000:=by
      have:=Bz y.natAbs (max dx dy - dy)
      omega
    have HLA:=Lib.hid hla
    have HLB:=Lib.hid hlb
    have Y1':=Lib.hid Y1
    have Y2':=Lib.hid Y2
    obtain ⟨cv,hcv⟩:∃ cv,cv=sgI (((x.natAbs*2 ^ (max dx dy - dx):Nat):Int) - ((y.natAbs*2 ^ (max dx dy - dy):Nat):Int)):=⟨_,rfl⟩
    have hcr:=Mk (((x.natAbs*2 ^ (max dx dy - dx):Nat):Int) - ((y.natAbs*2 ^ (max dx dy - dy):Nat):Int))
    rw [←hcv] at hcr
    have HCV:=Lib.hid hcv
    have hres:UQ x dx y dy=if x<0 then -cv else cv:=by
      have hs:(x<0) ↔ (y<0):=by
        have h5:=HNE.out
        rw [HSX.out,HSY.out] at h5
        unfold sgI at h5
        constructor <;> intro h6 <;> (repeat (first|split at h5|omega))
      have hz:(x=0) ↔ (y=0):=by
        have h5:=HNE.out
        rw [HSX.out,HSY.out] at h5
        unfold sgI at h5
        constructor <;> intro h6 <;> (repeat (first|split at h5|omega))
      rw [hcv,SL,SL]
      unfold UQ
      by_cases h:x<0
      · rw [if_pos h,if_pos h,if_pos (hs.1 h),←SJ]
        congr 1
        omega
      · rw [if_neg h,if_neg h,if_neg (fun h2=>h (hs.2 h2))]
    have HRES:=Lib.hid hres
    clear hla hlb Y1 Y2 hcv hres hb3 b2
    cases hdx:decide (x<0) with
    | true =>
      have HXN := Lib.hid (show x < 0 by simpa using hdx)
      clear hdx
      go_wp2_with (go_at_call 57;refine (HH Y1'.out Y2'.out HLA.out HLB.out).mono ?_;rintro e w4 ⟨rfl,hb4⟩;rw [←HCV.out])
      go_ret
      exact ⟨by rw [HRES.out,if_pos HXN.out];rfl,b3.trans (hb4.mono (by have:=b3.size;omega))⟩
    | false =>
      have HXN := Lib.hid (show ¬ x < 0 by simpa using hdx)
      clear hdx
      go_wp2_with (go_at_call 57;refine (HH Y1'.out Y2'.out HLA.out HLB.out).mono ?_;rintro e w4 ⟨rfl,hb4⟩;rw [←HCV.out])
      go_ret
      exact ⟨by rw [HRES.out,if_neg (by have:=HXN.out;omega)];rfl,b3.trans (hb4.mono (by have:=b3.size;omega))⟩
  · have hnb:(sx != sy)=true:=by simpa using hne
    by_cases hlt:sx<sy
    · have HV := Lib.hid (show UQ x dx y dy = -1 by unfold UQ; refine Aad ?_; rw [Fi, Fi, ← HSX.out, ← HSY.out]; exact hlt)
      have hltb:decide (sx<sy)=true:=decide_eq_true hlt
      clear hne
      go_wp2_with fail
      go_ret
      exact ⟨by rw [HV.out];rfl,b2⟩
    · have HV := Lib.hid (show UQ x dx y dy = 1 by unfold UQ; refine Aee ?_; rw [Fi, Fi, ← HSX.out, ← HSY.out]; omega)
      have hltb:decide (sx<sy)=false:=decide_eq_false hlt
      clear hne
      go_wp2_with fail
      go_ret
      exact ⟨by rw [HV.out];rfl,b2⟩
structure Bk where
 kind:Int
 A:Option Addr
 args:List Int
 cap:Nat
 vn:Int
 ve:Int
 un:Int
 ue:Int
def Bk.cells (b:Bk):List Value:=[.int .i64 b.kind,.slice b.A b.args.length b.cap,.int .i64 b.vn,.int .i64 b.ve,.int .i64 b.un,.int .i64 b.ue]
def bk0:Bk:=⟨0,none,[],0,0,0,0,0⟩
def BU (bs:List Bk) (i:Nat):Int:=(bs[i]?.getD bk0).kind
def Nu (bs:List Bk) (i:Nat):List Int:=(bs[i]?.getD bk0).args
def Du (bs:List Bk) (i:Nat):List Int:=if BU bs i=0 then [] else Nu bs i
def ArgsOk (bs:List Bk):Prop:=∀ i,i<bs.length→∀ a∈Du bs i,0≤a∧a<bs.length
theorem Aef:∀ {l1 l2:List Nat},l1.Nodup→(∀ x∈l1,x∈l2)→l1.length≤l2.length
 | [],_,_,_=>Nat.zero_le _
 | x::l,l2,hn,hs=>by
  have hx:=hs x (by simp)
  have hn':=List.nodup_cons.1 hn
  have:=Aef (l1:=l) (l2:=l2.erase x) hn'.2 (fun y hy=>(List.mem_erase_of_ne (fun h=>hn'.1 (by rw [←h];exact hy))).2 (hs y (by simp [hy])))
  rw [List.length_erase_of_mem hx] at this
  have hp:0<l2.length:=List.length_pos_of_mem hx
  simp
  omega
theorem TZ (p:Nat→Bool) (l:List Nat):(l.filter p).length+(l.filter fun i=>!p i).length=l.length:=by
 induction l with
 | nil=>rfl
 | cons x l ih =>
  simp only [List.filter_cons]
  cases h:p x <;> simp <;> omega
/- The order. -/
def Ei (bs:List Bk) (out:List Nat) (j:Nat):Bool:=BU bs j == 2 || out.contains j
def rdy (bs:List Bk) (out:List Nat) (i:Nat):Bool:=!Ei bs out i && (Du bs i).all fun a=>Ei bs out a.toNat
def nxt (bs:List Bk) (out:List Nat):Option Nat:=(List.range bs.length).find? (rdy bs out)
def Rf (bs:List Bk):Nat→List Nat→List Nat
 | 0,out=>out
 | f+1,out=>match nxt bs out with
  | none=>out
  | some i=>Rf bs f (out++[i])
def Dl (bs:List Bk):Nat:=((List.range bs.length).filter fun i=>BU bs i != 2).length
def Dc (bs:List Bk):List Nat:=Rf bs bs.length []
def CA (bs:List Bk):List Nat:=(List.range bs.length).filter fun i=>BU bs i == 2
structure GO (bs:List Bk) (out:List Nat):Prop where
 nodup:out.Nodup
 mem:∀ j∈out,j<bs.length∧BU bs j≠2
theorem SO {bs:List Bk} {out:List Nat} {i:Nat} (h:nxt bs out=some i):i<bs.length∧rdy bs out i=true:=by
 have h1:=List.find?_some h
 have h2:=List.mem_of_find?_eq_some h
 exact ⟨by simpa using h2,h1⟩
theorem GO.nil (bs:List Bk):GO bs []:=⟨List.nodup_nil,by simp⟩
theorem GO.push {bs:List Bk} {out:List Nat} (h:GO bs out) {i:Nat} (hn:nxt bs out=some i):GO bs (out++[i]):=by
 obtain ⟨h1,h2⟩:=SO hn
 simp only [rdy,Ei,Bool.and_eq_true,Bool.not_eq_true',Bool.or_eq_false_iff,beq_eq_false_iff_ne] at h2
 refine ⟨List.nodup_append.2 ⟨h.nodup,by simp,fun x hx y hy=>?_⟩,fun j hj=>?_⟩
 ·simp at hy
  subst hy
  intro he
  subst he
  have:=h2.1.2
  simp [hx] at this
 ·rcases List.mem_append.1 hj with hj|hj
  ·exact h.mem j hj
  ·simp at hj
   subst hj
   exact ⟨h1,h2.1.1⟩
theorem GO.le {bs:List Bk} {out:List Nat} (h:GO bs out):out.length≤Dl bs:=by
 have hs:out ⊆ (List.range bs.length).filter fun i=>BU bs i != 2:=fun j hj=>by
  have:=h.mem j hj
  simp [this.1,this.2]
 exact Aef h.nodup hs
theorem Hk (bs:List Bk):Dl bs≤bs.length:=by
 unfold Dl
 have:=List.length_filter_le (fun i=>BU bs i != 2) (List.range bs.length)
 simpa using this
theorem Ol {bs:List Bk}:∀ (f:Nat) {out:List Nat},GO bs out→GO bs (Rf bs f out)
 | 0,_,h=>h
 | f+1,out,h=>by
  unfold Rf
  split
  ·exact h
  ·rename_i i hi
   exact Ol f (h.push hi)
theorem PW {bs:List Bk}:∀ (f g:Nat) {out:List Nat},GO bs out→Dl bs - out.length≤f→f≤g→Rf bs f out=Rf bs g out
 | 0,g,out,h,hf,_=>by
  have hfull:out.length=Dl bs:=by have:=h.le;omega
  cases g with
  | zero=>rfl
  | succ g =>
   show out=match nxt bs out with|none=>out|some i=>Rf bs g (out++[i])
   cases hn:nxt bs out with
   | none=>rfl
   | some i =>
    have:=(h.push hn).le
    simp at this
    omega
 | f+1,0,_,_,_,hg=>by omega
 | f+1,g+1,out,h,hf,hg=>by
  show (match nxt bs out with|none=>out|some i=>Rf bs f (out++[i]))=match nxt bs out with|none=>out|some i=>Rf bs g (out++[i])
  cases hn:nxt bs out with
  | none=>rfl
  | some i=>exact PW f g (h.push hn) (by simp;omega) (by omega)
theorem Abv (bs:List Bk):(CA bs).length+Dl bs=bs.length:=by
 unfold CA Dl
 have h:=TZ (fun i=>BU bs i == 2) (List.range bs.length)
 rw [List.length_range] at h
 exact h
/- What a block depends on. -/
def CU (bs:List Bk) (over:Bool) (i:Nat):List Int:=if BU bs i=2∧over=false then [] else Du bs i
inductive Reach (bs:List Bk) (over:Bool):Nat→Nat→Prop
 | refl (i:Nat):Reach bs over i i
 | step {i j:Nat} {a:Int}:Reach bs over i j→a∈CU bs over j→Reach bs over i a.toNat
def AfW (m:List Bool):List Nat:=(List.range m.length).filter fun i=>m[i]?.getD false
end Go.Proofs.YtmdfjbpggbhgnaaGreatDoor
namespace Go.Proofs.YtmdfjbpggbhgnaaGreatDoor
open Go.RowKit
def isM (m:List Bool) (j:Nat):Bool:=m[j]?.getD false
def SQ (bs:List Bk):Prop:=∀ i,i<bs.length→∀ a∈Du bs i,0≤a∧a<(bs.length:Int)
theorem Rg {bs:List Bk} {over:Bool} {i:Nat} {a:Int} (h:a∈CU bs over i):a∈Du bs i:=by
 unfold CU at h
 split at h
 ·cases h
 ·exact h
structure YD (bs:List Bk) (over:Bool) (m:List Bool) (i:Nat) (m':List Bool):Prop where
 len:m'.length=m.length
 mono:∀ j,isM m j=true→isM m' j=true
 self:isM m' i=true
 from_:∀ j,isM m' j=true→isM m j=true∨Reach bs over i j
 closed:∀ j,isM m' j=true→isM m j=false→∀ a∈CU bs over j,isM m' a.toNat=true
structure Abw (bs:List Bk) (over:Bool) (m:List Bool) (i k:Nat) (m':List Bool):Prop where
 len:m'.length=m.length
 mono:∀ j,isM m j=true→isM m' j=true
 self:isM m' i=true
 from_:∀ j,isM m' j=true→isM m j=true∨Reach bs over i j
 closed:∀ j,j≠i→isM m' j=true→isM m j=false→∀ a∈CU bs over j,isM m' a.toNat=true
 args:∀ t,t<k→∀ a,(CU bs over i)[t]?=some a→isM m' a.toNat=true
def unM (m:List Bool):Nat:=(m.filter fun b=>!b).length
/- The document's way: pass after pass. -/
def Aeg (bs:List Bk) (over:Bool) (m:List Bool) (i:Nat):List Bool:=if isM m i=true then (CU bs over i).foldl (fun m a=>m.set a.toNat true) m else m
def AfX (bs:List Bk) (over:Bool) (m:List Bool):List Bool:=(List.range bs.length).foldl (Aeg bs over) m
def SR (bs:List Bk) (over:Bool):Nat→List Bool→List Bool
 | 0,m=>m
 | k+1,m=>SR bs over k (AfX bs over m)
def AfY (bs:List Bk) (over:Bool) (m:List Bool):Prop:=∀ i,isM m i=true→∀ a∈CU bs over i,isM m a.toNat=true
end Go.Proofs.YtmdfjbpggbhgnaaGreatDoor
namespace Go.Proofs.YtmdfjbpggbhgnaaGreatDoor
open Go.RowKit
def AU (k:Int):Int:=if k=1 then 0 else if k=0∨k=2∨k=5∨k=10∨k=6∨k=11 then 1 else if k=3∨k=4∨k=7∨k=8∨k=9 then 2 else -1
theorem CL {a b:Int} (h:a=b):Ending.returned (.int .i64 a)=.returned (.int .i64 b):=by rw [h]
theorem Ea (k:Int) (w:World):Calls Tryz.prog 201 #[.int .i64 k] w fun e w'=>e=.returned (.int .i64 (AU k))∧w=w':=by
 go_enter Tryz.func201,Tryz.ntmps201
 go_wp2
 all_goals
  go_ret
  exact ⟨CL (by simp only [beq_iff_eq,beq_eq_false_iff_ne,ne_eq] at *;simp [AU, *]),rfl⟩
theorem Dm (k:Int) (w:World):Calls Tryz.prog 167 #[.int .i64 k] w fun e w'=>e=.returned (.int .i64 (AU k))∧w=w':=by
 go_enter Tryz.func167,Tryz.ntmps167
 go_wp2
 all_goals
  go_ret
  exact ⟨CL (by simp only [beq_iff_eq,beq_eq_false_iff_ne,ne_eq] at *;simp [AU, *]),rfl⟩
def Cd (n lo hi:Int):Bool:=decide (lo≤n∧n≤hi)
theorem Bu (n lo hi:Int) (w:World):Calls Tryz.prog 76 #[.int .i64 n,.int .i64 lo,.int .i64 hi] w fun e w'=>e=.returned (.bool (Cd n lo hi))∧w=w':=by
 by_cases h1:lo≤n
 ·by_cases h2:n≤hi
  ·have HV:=Lib.hid (show Cd n lo hi=true from decide_eq_true ⟨h1,h2⟩)
   go_enter Tryz.func76,Tryz.ntmps76
   go_wp2
   go_ret
   exact ⟨by rw [HV.out];rfl,rfl⟩
  ·have HV:=Lib.hid (show Cd n lo hi=false from decide_eq_false (fun h=>h2 h.2))
   go_enter Tryz.func76,Tryz.ntmps76
   go_wp2
   go_ret
   exact ⟨by rw [HV.out];rfl,rfl⟩
 ·have HV:=Lib.hid (show Cd n lo hi=false from decide_eq_false (fun h=>h1 h.1))
  go_enter Tryz.func76,Tryz.ntmps76
  go_wp2
  go_ret
  exact ⟨by rw [HV.out];rfl,rfl⟩
def EW (num ex:Int):Prop := -2147483648<num∧num<2147483648 ∧ -62≤ex∧ex≤30
instance (num ex:Int):Decidable (EW num ex):=by unfold EW;infer_instance
def BF (num ex:Int) (used:Bool):Int:=if used=true then (if EW num ex then 0 else 3) else (if num=0∧ex=0 then 0 else 2)
theorem Aae {n:Int} (h:n=0):Ending.returned .nilIface=.returned (GH n):=by rw [h];rfl
theorem Gr {n k:Int} (h:n=k) (hk:k≠0):Ending.returned (.iface 109 (.int .i64 k))=.returned (GH n):=by rw [h,Dx hk]
theorem Cn (num ex:Int) (used:Bool) (w:World):Calls Tryz.prog 202 #[.agg #[.int .i64 num,.int .i64 ex],.bool used] w fun e w'=>e=.returned (GH (BF num ex used))∧Below w.heap.size w w':=by
 cases used with
 | false =>
  go_enter Tryz.func202,Tryz.ntmps202
  go_wp2
  all_goals
   go_ret
   first
    | exact ⟨Aae (by simp only [BF,Bool.false_eq_true,if_false];split <;> omega),al_ _ _⟩
    | exact ⟨Gr (k:=2) (by simp only [BF,Bool.false_eq_true,if_false];split <;> omega) (by decide),al_ _ _⟩
 | true =>
  by_cases hs:EW num ex
  ·have HV:=Lib.hid (show BF num ex true=0 by unfold BF;rw [if_pos rfl,if_pos hs])
   obtain ⟨h1,h2,h3,h4⟩:=hs
   go_enter Tryz.func202,Tryz.ntmps202
   go_wp2
   go_ret
   exact ⟨Aae HV.out,al_ _ _⟩
  ·have HV:=Lib.hid (show BF num ex true=3 by unfold BF;rw [if_pos rfl,if_neg hs])
   have HS:=Lib.hid hs
   clear hs
   go_enter Tryz.func202,Tryz.ntmps202
   go_wp2
   all_goals
    go_ret
    first
     | exact ⟨Gr (k:=3) HV.out (by decide),al_ _ _⟩
     | (exfalso;exact HS.out ⟨by omega,by omega,by omega,by omega⟩)
theorem Ce (num ex:Int) (used:Bool) (w:World):Calls Tryz.prog 168 #[.agg #[.int .i64 num,.int .i64 ex],.bool used] w fun e w'=>e=.returned (.int .i64 (BF num ex used))∧Below w.heap.size w w':=by
 cases used with
 | false =>
  go_enter Tryz.func168,Tryz.ntmps168
  go_wp2
  all_goals
   go_ret
   exact ⟨CL (by simp only [BF,Bool.false_eq_true,if_false];split <;> omega),al_ _ _⟩
 | true =>
  by_cases hn : -2147483647≤num∧num≤2147483647
  ·have W1:Cd num (-2147483647) 2147483647=true:=decide_eq_true hn
   by_cases he : -62≤ex∧ex≤30
   ·have W2:Cd ex (-62) 30=true:=decide_eq_true he
    have HV:=Lib.hid (show BF num ex true=0 by unfold BF;rw [if_pos rfl,if_pos ⟨by omega,by omega,he.1,he.2⟩])
    clear hn he
    go_enter Tryz.func168,Tryz.ntmps168
    go_wp2_with (go_at_call 76;refine (Bu _ _ _ _).mono ?_;rintro e w1 ⟨rfl,rfl⟩)
    go_ret
    exact ⟨by rw [HV.out];rfl,al_ _ _⟩
   ·have W2:Cd ex (-62) 30=false:=decide_eq_false he
    have HV:=Lib.hid (show BF num ex true=3 by unfold BF;rw [if_pos rfl,if_neg (fun h=>he ⟨h.2.2.1,h.2.2.2⟩)])
    clear hn he
    go_enter Tryz.func168,Tryz.ntmps168
    go_wp2_with (go_at_call 76;refine (Bu _ _ _ _).mono ?_;rintro e w1 ⟨rfl,rfl⟩)
    go_ret
    exact ⟨by rw [HV.out];rfl,al_ _ _⟩
  ·have W1:Cd num (-2147483647) 2147483647=false:=decide_eq_false hn
   have HV:=Lib.hid (show BF num ex true=3 by unfold BF;rw [if_pos rfl,if_neg (fun h=>hn ⟨by have:=h.1;omega,by have:=h.2.1;omega⟩)])
   clear hn
   go_enter Tryz.func168,Tryz.ntmps168
   go_wp2_with (go_at_call 76;refine (Bu _ _ _ _).mono ?_;rintro e w1 ⟨rfl,rfl⟩)
   go_ret
   exact ⟨by rw [HV.out];rfl,al_ _ _⟩
theorem VZ {tmps:Array Value} {w:World} {b:Nat} {v0 v1 v2:Value} (h2:tmps.getD 2 undef=.pointer (some ⟨b,0,none⟩)) (hB:Bh w b [v0,v1,v2] 43) :
  (results Tryz.f203 tmps).run Tryz.prog w=.ok (.agg #[v0,v1,v2]) w:=by
 have k0:=hB.cell 0
 have k1:=hB.cell 1
 have k2:=hB.cell 2
 simp at k0 k1 k2
 simp at h2
 simp [results,Tryz.results203,go_sem,h2,k0,k1,k2]
theorem PZ (num ex:Int) (w:World) (h:EW num ex) (ht:Ax w):Calls Tryz.prog 203 #[.agg #[.int .i64 num,.int .i64 ex]] w fun e w'=>∃ v,e=.returned v∧DyR w' w.heap.size w'.heap.size v (Ai num 0 ex).1 (Ai num 0 ex).2∧Below w.heap.size w w':=by
  obtain ⟨h1,h2,h3,h4⟩:=h
  have hln:(Ad num.natAbs).length≤50000:=Nat.le_trans (Bb (k:=1) (by omega)) (by decide)
  have b0:Below w.heap.size w ((w.alloc (.cells #[.int .i64 num,.int .i64 ex] 61)).alloc (.cells #[.bool false,.slice none 0 0,.int .i64 0] 43)):=Aq (Aq (Below.refl _ _) _) _
  have r0:=(Bh.new_ w [.int .i64 num,.int .i64 ex] 61).call (al_ _ (.cells #[.bool false,.slice none 0 0,.int .i64 0] 43))
  have r1:=Bh.new_ (w.alloc (.cells #[.int .i64 num,.int .i64 ex] 61)) [.bool false,.slice none 0 0,.int .i64 0] 43
  rw [show (w.alloc (.cells #[.int .i64 num,.int .i64 ex] 61)).heap.size=w.heap.size+1 by simp] at r1
  have HT:=Lib.hid ht
  clear ht
  go_enter Tryz.func203,Tryz.ntmps203
  go_wp2_with fail
  obtain ⟨W,hW⟩:∃ W,W=((w.alloc (.cells #[.int .i64 num,.int .i64 ex] 61)).alloc (.cells #[.bool false,.slice none 0 0,.int .i64 0] 43)):=⟨_,rfl⟩
  have hWs:w.heap.size+2≤W.heap.size:=by rw [hW];simp
  rw [←hW]
  rw [←hW] at b0 r0 r1
  clear hW
  have a0:W.cell? ⟨w.heap.size,0,none⟩=some (.int .i64 num):=r0.cell 0
  have a1:W.cell? ⟨w.heap.size,1,none⟩=some (.int .i64 ex):=r0.cell 1
  have hk:SK W (w.heap.size+1) (w.heap.size+1) W:=SK.refl (by omega) ⟨_,_,_,r1⟩
  have HTW:=HT.out.below b0 HT.out.1
  go_region_held3 (fun w'=>(∀ b o,b<w.heap.size+1→w'.cell? ⟨b,o,none⟩=W.cell? ⟨b,o,none⟩)∧SK W (w.heap.size+1) (w.heap.size+1) w')
    (first
      | (refine SK.all ?_
         first
           | assumption
           | exact hk
           | exact hk.drew
           | exact ((SK.set (by assumption) (by omega) _ _).set (by omega) _ _).set (by omega) _ _))
    (first
      | (go_at_call 68;refine (QW num (by omega) (by omega) _ (HTW.below (Below.refl _ W).drew HTW.1)).mono ?_;(rintro e w5 ⟨v5,rfl,D5,hb5⟩;have hk5:=SK.call hk.drew hb5;have hf5:=hk5.lt;have HT5:=(HTW.below (Below.refl _ W).drew HTW.1).call hb5;obtain ⟨nb5,A5,L5,c5,rfl,_⟩:=D5.form))
      | (go_at_call 21;refine (HJ D5 (Nat.le_refl _) hln (by omega) HT5).mono ?_;(rintro e w6 ⟨v6,rfl,D6,hb6⟩;have hk6:=SK.call hk5 hb6;have hf6:=hk6.lt;obtain ⟨nb6,A9,L9,c9,rfl,_⟩:=D6.form;obtain ⟨z0,z1,z2,rz,k0,k1,k2,kf⟩:=SK.cells hk6)))
  go_wp2_with fail
  refine bodyPost_ret (VZ rfl (((rz.set_ 0 _).set_ 1 _).set_ 2 _)) rfl ⟨_,rfl,?_,(((b0.trans (hk6.is.mono (by omega))).setCell (by simp) _).setCell (by simp) _).setCell (by simp) _⟩
  exact ((((D6.set_ (by omega) 0 _).set_ (by omega) 1 _).set_ (by omega) 2 _).low (by omega)).more (by simp)
end Go.Proofs.YtmdfjbpggbhgnaaGreatDoor
namespace Go.Proofs.YtmdfjbpggbhgnaaGreatDoor
open Go.RowKit
def Pk (num ex:Int):Int:=num*2 ^ (ex+62).toNat
def Ml (an ae bn be:Int):Int:=sgI (Pk an ae - Pk bn be)
theorem Gi {num ex:Int} (h1 : -62≤ex) (h2:ex≤30):(Ai num 0 ex).1*2 ^ 62=Pk num ex*2 ^ (Ai num 0 ex).2:=by
 unfold Ai Pk
 have e:max (-65536) (min ex 65536)=ex:=by omega
 rw [e]
 by_cases h:ex<0
 ·rw [if_pos h]
  obtain ⟨n,hn⟩:∃ n:Nat,ex = -(n:Int):=⟨(-ex).toNat,by omega⟩
  have e1:(-ex).toNat=n:=by omega
  have e2:(ex+62).toNat=62 - n:=by omega
  rw [e1,e2,Nat.zero_add]
  have h3:=Yf num n
  have h4:(2:Int) ^ 62=2 ^ n*2 ^ (62 - n):=by rw [←Int.pow_add,show n+(62 - n)=62 by omega]
  rw [h4,←Int.mul_assoc,h3,Int.mul_assoc,Int.mul_assoc,Int.mul_comm (2 ^ _) (2 ^ _)]
 ·rw [if_neg h]
  obtain ⟨n,rfl⟩:=Int.eq_ofNat_of_zero_le (show 0≤ex by omega)
  rw [Int.toNat_natCast,Ep (by omega),show ((n:Int)+62).toNat=n+62 by omega,Int.pow_add]
  simp [Int.mul_assoc]
theorem Abx {an ae bn be:Int} (h1:EW an ae) (h2:EW bn be):UQ (Ai an 0 ae).1 (Ai an 0 ae).2 (Ai bn 0 be).1 (Ai bn 0 be).2=Ml an ae bn be:=by
 have e1:=Gi h1.2.2.1 h1.2.2.2 (num:=an)
 have e2:=Gi h2.2.2.1 h2.2.2.2 (num:=bn)
 unfold UQ Ml
 revert e1 e2
 generalize Ai an 0 ae=p
 generalize Ai bn 0 be=q
 obtain ⟨x,dx⟩:=p
 obtain ⟨y,dy⟩:=q
 generalize Pk an ae=V1
 generalize Pk bn be=V2
 intro e1 e2
 dsimp only at e1 e2 ⊢
 rw [←Fi _ 62,←Fi (V1 - V2) (max dx dy)]
 congr 1
 have f1:(2:Int) ^ max dx dy=2 ^ dx*2 ^ (max dx dy - dx):=by rw [←Int.pow_add,show dx+(max dx dy - dx)=max dx dy by omega]
 have f2:(2:Int) ^ max dx dy=2 ^ dy*2 ^ (max dx dy - dy):=by rw [←Int.pow_add,show dy+(max dx dy - dy)=max dx dy by omega]
 rw [Int.sub_mul,Int.sub_mul]
 congr 1
 ·rw [f1,←Int.mul_assoc,←e1,Int.mul_assoc,Int.mul_assoc,Int.mul_comm (2 ^ _) (2 ^ _)]
 ·rw [f2,←Int.mul_assoc,←e2,Int.mul_assoc,Int.mul_assoc,Int.mul_comm (2 ^ _) (2 ^ _)]
structure Ua (n e n0 e0 e1:Int):Prop where
 eq:Pk n e=Pk n0 e0
 lo : -62≤e
 hi:e≤e0
 least:e=e0∨e1≤e
 small : -4294967296<n∧n<4294967296
 same:e=e0→n=n0
theorem Rh {x:Int} (h:0<x):sgI x=1:=by unfold sgI;rw [if_neg (by omega),if_neg (by omega)]
theorem Ri {x:Int} (h:x<0):sgI x = -1:=by unfold sgI;rw [if_neg (by omega),if_pos h]
theorem Wa {n e:Int} (k:Nat) (h : -62≤e - k):Pk n e=(n*2 ^ k)*2 ^ (e - k+62).toNat:=by
 unfold Pk
 rw [Int.mul_assoc,←Int.pow_add,show k+(e - (k:Int)+62).toNat=(e+62).toNat by omega]
theorem Wb {n:Int} (h:2147483648≤n) (k:Nat):2147483648≤n*2 ^ k:=by
 have hp:(1:Int)≤2 ^ k:=by have:=Int.pow_pos (n:=2) (m:=k) (by decide);omega
 have:=Int.mul_le_mul_of_nonneg_left hp (show 0≤n by omega)
 omega
theorem Aby {n:Int} (h:n ≤ -2147483648) (k:Nat):n*2 ^ k ≤ -2147483648:=by
 have:=Wb (n := -n) (by omega) k
 rw [Int.neg_mul] at this
 omega
theorem SS (x y:Int):sgI (x - y) = -sgI (y - x):=by rw [←SJ];congr 1;omega
theorem ST {a ea b eb:Int} (h1 : -62≤eb) (h2:eb≤ea) (h:ea=eb∨a=0∨2147483648≤a∨a ≤ -2147483648) (hb : -2147483648<b∧b<2147483648):sgI (Pk a ea - Pk b eb)=sgI (a - b):=by
 obtain ⟨k,hk⟩:=Int.eq_ofNat_of_zero_le (show 0≤ea - eb by omega)
 have e1:Pk a ea=(a*2 ^ k)*2 ^ (eb+62).toNat:=by rw [Wa k (by omega),show ea - (k:Int)=eb by omega]
 have e2:Pk a ea - Pk b eb=(a*2 ^ k - b)*2 ^ (eb+62).toNat:=by rw [e1,Int.sub_mul];rfl
 rw [e2,Fi]
 rcases h with h|h|h|h
 ·have:k=0:=by omega
  subst this
  simp
 ·subst h;simp
 ·have:=Wb h k
  rw [Rh (by omega),Rh (by omega)]
 ·have:=Aby h k
  rw [Ri (by omega),Ri (by omega)]
theorem YE {a ea b eb:Int} (h1 : -62≤ea) (h2:ea≤eb) (h:eb=ea∨b=0∨2147483648≤b∨b ≤ -2147483648) (ha : -2147483648<a∧a<2147483648):sgI (Pk a ea - Pk b eb)=sgI (a - b):=by
 rw [SS,ST h1 h2 h ha,←SS]
theorem SW {n e n0 e0 e1:Int} (h:Ua n e n0 e0 e1) (hs : -2147483648<n∧n<2147483648) (hgt:e1<e) (h1 : -62≤e1):Ua (2*n) (e - 1) n0 e0 e1 :=
 ⟨by rw [←h.eq,Wa (n:=n) (e:=e) 1 (by omega)];unfold Pk;rw [Int.mul_comm 2 n];rfl,by omega,by have:=h.hi;omega,.inr (by omega),by omega,fun h2=>by have:=h.hi;omega⟩
theorem FO (x y:Int):sgI (x - y)=if x<y then -1 else if y<x then 1 else 0:=by
 by_cases h:x<y
 ·rw [if_pos h,Ri (by omega)]
 ·rw [if_neg h]
  by_cases h2:y<x
  ·rw [if_pos h2,Rh (by omega)]
  ·rw [if_neg h2,show x - y=0 by omega];rfl
theorem YF {an ae bn be n e n2 e2:Int} (H1:Ua n e an ae be) (X1:e≤be∨n=0∨2147483648≤n∨n ≤ -2147483648) (H2:Ua n2 e2 bn be e) (X2:e2≤e∨n2=0∨2147483648≤n2∨n2 ≤ -2147483648)
  (sa : -2147483648<an∧an<2147483648) (sb : -2147483648<bn∧bn<2147483648):Ml an ae bn be=sgI (n - n2):=by
 unfold Ml
 rw [←H1.eq,←H2.eq]
 have l1:=H1.lo
 have l2:=H2.lo
 have u1:=H1.hi
 have u2:=H2.hi
 by_cases hc:be≤e
 ·have he:e2=be:=by rcases H2.least with h|h <;> omega
  have hn:=H2.same he
  exact ST l2 (by omega) (by rcases X1 with h|h|h|h <;> omega) (by rw [hn];exact sb)
 ·have he:e=ae:=by rcases H1.least with h|h <;> omega
  have hn:=H1.same he
  exact YE l1 (by rcases H2.least with h|h <;> omega) (by rcases X2 with h|h|h|h <;> rcases H2.least with h'|h' <;> omega) (by rw [hn];exact sa)
end Go.Proofs.YtmdfjbpggbhgnaaGreatDoor
namespace Go.Proofs.YtmdfjbpggbhgnaaGreatDoor
open Go.RowKit
def Afi (w:World) (b:Nat):Int:=intOf ((w.cell? ⟨b,1,none⟩).getD undef)
def Aeh (w:World) (an ae bn be:Int) (wr:World):Prop :=
 ∃ n e,Bh wr w.heap.size [.int .i64 n,.int .i64 e] 61∧Bh wr (w.heap.size+1) [.int .i64 bn,.int .i64 be] 61∧Ua n e an ae be∧Below w.heap.size w wr
def Aei (w:World) (an ae bn be:Int) (wr:World):Prop :=
 ∃ n e,Bh wr (w.heap.size+1) [.int .i64 n,.int .i64 e] 61∧Bh wr w.heap.size [.int .i64 an,.int .i64 ae] 61∧Ua n e bn be ae∧Below w.heap.size w wr
theorem Lm {w:World} {b t:Nat} {x:Value} {e:Int} (h:Bh w b [x,.int .i64 e] t):Afi w b=e:=by
 unfold Afi
 rw [show w.cell? ⟨b,1,none⟩=some (.int .i64 e) from h.cell 1]
 rfl
theorem SZ {w wr:World} {b c t:Nat} {u v n e:Int} {vs:List Value} (h:Bh wr b [.int .i64 u,.int .i64 v] t) (h2:Bh wr c vs t) (hbc:c≠b) (hb:w.heap.size≤b) (hw:Below w.heap.size w wr) :
  Bh ((wr.setCell ⟨b,0,none⟩ (.int .i64 n)).setCell ⟨b,1,none⟩ (.int .i64 e)) b [.int .i64 n,.int .i64 e] t∧Bh ((wr.setCell ⟨b,0,none⟩ (.int .i64 n)).setCell ⟨b,1,none⟩ (.int .i64 e)) c vs t ∧
   Below w.heap.size w ((wr.setCell ⟨b,0,none⟩ (.int .i64 n)).setCell ⟨b,1,none⟩ (.int .i64 e)) :=
 ⟨(h.set_ 0 _).set_ 1 _,(h2.other_ hbc 0 _).other_ hbc 1 _,(hw.setCell hb _).setCell hb _⟩
theorem YG (an ae bn be:Int) (w:World) (h1:EW an ae) (h2:EW bn be) :
  Calls Tryz.prog 169 #[.agg #[.int .i64 an,.int .i64 ae],.agg #[.int .i64 bn,.int .i64 be]] w fun e w'=>e=.returned (.int .i64 (Ml an ae bn be))∧Below w.heap.size w w':=by
 obtain ⟨a1,a2,a3,a4⟩:=h1
 obtain ⟨b1,b2,b3,b4⟩:=h2
 have b0:Below w.heap.size w ((w.alloc (.cells #[.int .i64 an,.int .i64 ae] 61)).alloc (.cells #[.int .i64 bn,.int .i64 be] 61)):=Aq (Aq (Below.refl _ _) _) _
 have r0:=(Bh.new_ w [.int .i64 an,.int .i64 ae] 61).call (al_ _ (.cells #[.int .i64 bn,.int .i64 be] 61))
 have r1:=Bh.new_ (w.alloc (.cells #[.int .i64 an,.int .i64 ae] 61)) [.int .i64 bn,.int .i64 be] 61
 rw [show (w.alloc (.cells #[.int .i64 an,.int .i64 ae] 61)).heap.size=w.heap.size+1 by simp] at r1
 go_enter Tryz.func169,Tryz.ntmps169
 go_wp2_with fail
 obtain ⟨W,hW⟩:∃ W,W=((w.alloc (.cells #[.int .i64 an,.int .i64 ae] 61)).alloc (.cells #[.int .i64 bn,.int .i64 be] 61)):=⟨_,rfl⟩
 rw [←hW]
 rw [←hW] at b0 r0 r1
 clear hW
 go_loopw [] (fun wr=>Aeh w an ae bn be wr) (fun wr=>(Afi wr w.heap.size - be).toNat)
 case atStart=>exact ⟨an,ae,r0,r1,⟨rfl,by omega,by omega,.inl rfl,by omega,fun _=>rfl⟩,b0⟩
 case round =>
  clear b0 r0 r1
  obtain ⟨n,e,r0,r1,hd,hb⟩:=hrel
  have c0:wr.cell? ⟨w.heap.size,0,none⟩=some (.int .i64 n):=r0.cell 0
  have c1:wr.cell? ⟨w.heap.size,1,none⟩=some (.int .i64 e):=r0.cell 1
  have c2:wr.cell? ⟨w.heap.size+1,0,none⟩=some (.int .i64 bn):=r1.cell 0
  have c3:wr.cell? ⟨w.heap.size+1,1,none⟩=some (.int .i64 be):=r1.cell 1
  have z0:=r0.lt
  have z1:=r1.lt
  have f0:=r0.free
  have f1:=r1.free
  have d1:=hd.small.1
  have d2:=hd.small.2
  have d3:=hd.lo
  have d4:=hd.hi
  have HD:=Lib.hid hd
  have R0:=Lib.hid r0
  have R1:=Lib.hid r1
  clear hd r0 r1
  by_cases hgo:be<e∧n≠0 ∧ -2147483648<n∧n<2147483648
  ·obtain ⟨g1,g2,g3,g4⟩:=hgo
   have g2:(n == 0)=false:=by simpa using g2
   go_wp2_with fail
   obtain ⟨s0,s1,s2⟩:=SZ (n:=2*n) (e:=e - 1) R0.out R1.out (by omega) (by omega) hb
   refine ⟨⟨2*n,e - 1,by first|exact s0|(rw [wrap64_in' (by omega) (by omega)];exact s0),s1,SW HD.out ⟨g3,g4⟩ g1 (by omega),s2⟩,?_⟩
   rw [Lm s0,Lm R0.out]
   omega
  ·have hx:e≤be∨n=0∨2147483648≤n∨n ≤ -2147483648:=by omega
   have X1:=Lib.hid hx
   clear hgo
   have key:(decide (be<e)=false)∨(decide (be<e)=true∧(n == 0)=true)∨(decide (be<e)=true∧(n == 0)=false∧2147483648≤n)∨(decide (be<e)=true∧(n == 0)=false∧n ≤ -2147483648):=by
    simp only [decide_eq_false_iff_not,decide_eq_true_eq,beq_iff_eq,beq_eq_false_iff_ne]
    omega
   clear hx
   rcases key with k1|⟨k1,k2⟩|⟨k1,k2,k3⟩|⟨k1,k2,k3⟩
   all_goals
    go_wp2_with fail
    all_goals try (exfalso;omega)
    clear c0 c1 c2 c3 f0 f1 k1
    obtain ⟨w1,hw1⟩:∃ w1,w1=wr:=⟨_,rfl⟩
    rw [←hw1] at R0 R1 hb
    rw [←hw1]
    clear hw1 z0 z1
    go_loopw [] (fun wr=>Aei w n e bn be wr) (fun wr=>(Afi wr (w.heap.size+1) - e).toNat)
    case atStart=>exact ⟨bn,be,R1.out,R0.out,⟨rfl,by omega,by omega,.inl rfl,by omega,fun _=>rfl⟩,hb⟩
    case round =>
     clear hb R0 R1
     obtain ⟨n2,e2,r0,r1,hd,hb⟩:=hrel
     have c0:wr.cell? ⟨w.heap.size+1,0,none⟩=some (.int .i64 n2):=r0.cell 0
     have c1:wr.cell? ⟨w.heap.size+1,1,none⟩=some (.int .i64 e2):=r0.cell 1
     have c2:wr.cell? ⟨w.heap.size,0,none⟩=some (.int .i64 n):=r1.cell 0
     have c3:wr.cell? ⟨w.heap.size,1,none⟩=some (.int .i64 e):=r1.cell 1
     have z0:=r0.lt
     have z1:=r1.lt
     have f0:=r0.free
     have f1:=r1.free
     have j1:=hd.small.1
     have j2:=hd.small.2
     have j3:=hd.lo
     have j4:=hd.hi
     have HD2:=Lib.hid hd
     have R0:=Lib.hid r0
     have R1:=Lib.hid r1
     clear hd r0 r1
     by_cases hgo:e<e2∧n2≠0 ∧ -2147483648<n2∧n2<2147483648
     ·obtain ⟨g1,g2,g3,g4⟩:=hgo
      have g2:(n2 == 0)=false:=by simpa using g2
      clear d1 d2 d4
      go_wp2_with fail
      all_goals try (exfalso;omega)
      obtain ⟨s0,s1,s2⟩:=SZ (n:=2*n2) (e:=e2 - 1) R0.out R1.out (by omega) (by omega) hb
      refine ⟨⟨2*n2,e2 - 1,by first|exact s0|(rw [wrap64_in' (by omega) (by omega)];exact s0),s1,SW HD2.out ⟨g3,g4⟩ g1 (by omega),s2⟩,?_⟩
      rw [Lm s0,Lm R0.out]
      omega
     ·have hx:e2≤e∨n2=0∨2147483648≤n2∨n2 ≤ -2147483648:=by omega
      have HV:=Lib.hid (YF HD.out X1.out HD2.out hx ⟨a1,a2⟩ ⟨b1,b2⟩)
      have HV2:=Lib.hid (HV.out.trans (FO n n2))
      clear HV hgo
      have key:(decide (e<e2)=false)∨(decide (e<e2)=true∧(n2 == 0)=true)∨(decide (e<e2)=true∧(n2 == 0)=false∧2147483648≤n2)∨(decide (e<e2)=true∧(n2 == 0)=false∧n2 ≤ -2147483648):=by
       simp only [decide_eq_false_iff_not,decide_eq_true_eq,beq_iff_eq,beq_eq_false_iff_ne]
       omega
      clear hx
      rcases key with k1|⟨k1,k2⟩|⟨k1,k2,k3⟩|⟨k1,k2,k3⟩
      all_goals
       go_wp2_with fail
       all_goals try (exfalso;omega)
       all_goals try go_wp2_with fail
       all_goals
        go_ret
        refine ⟨?_,hb⟩
        rw [HV2.out]
        first
         | (rw [if_pos (by omega)];rfl)
         | (rw [if_neg (by omega),if_pos (by omega)];rfl)
         | (rw [if_neg (by omega),if_neg (by omega)];rfl)
end Go.Proofs.YtmdfjbpggbhgnaaGreatDoor
namespace Go.Proofs.YtmdfjbpggbhgnaaGreatDoor
open Go.RowKit Go.Deep
theorem YH:(Tryz.prog.info? 3).map (fun i=>(i.zero,i.size,i.bytes))=some (some (.int .i64 0),1,8):=by kernel_rfl
theorem Nv:Tryz.prog.underlying 24=some (.slice 3):=by kernel_rfl
def Ej (w:World) (base:Nat) (v:Value) (xs:List Int):Prop:=w.ownsRow base 3 1 v xs.length (CO xs)
theorem Ej.nil_ (w:World) (base:Nat):Ej w base (.slice none 0 0) []:=World.ownsRow_nil w base _ _
theorem Ej.view {w:World} {base:Nat} {v:Value} {xs:List Int} (h:Ej w base v xs):∃ A c,v=.slice A xs.length c∧(A=none→c=0)∧Am w w.heap.size A (CO xs):=by
 rcases h.2 with ⟨rfl,h0⟩|⟨g,cap,cur,rfl,hb,hg,hn,hm,hs,ht⟩
 ·have:xs=[]:=List.eq_nil_of_length_eq_zero h0
  subst this
  exact ⟨none,0,rfl,fun _=>rfl,Am.nil_⟩
 ·have hlt:=(World.ownsRow.lt h g rfl).2
  refine ⟨some ⟨g,0,none⟩,cap,rfl,by simp,fun _=>⟨g,0,rfl,hlt,hlt,fun j u hu=>?_⟩⟩
  have:=World.ownsRow.cells h (g:=g) rfl j u hu
  rcases j with _|j
  ·simpa [Addr.add] using this
  ·simpa [Addr.add] using this
theorem Ej.base_ {w:World} {base:Nat} {v:Value} {xs:List Int} (h:Ej w base v xs) {base':Nat} (hb:base'≤base):Ej w base' v xs:=by
 refine ⟨h.1,?_⟩
 rcases h.2 with hn|⟨g,cap,cur,rfl,hbg,rest⟩
 ·exact .inl hn
 ·exact .inr ⟨g,cap,cur,rfl,Nat.le_trans hb hbg,rest⟩
theorem YI {w:World} {ops:Array Oper} {rest:List Oper} {o:Oper} {a:Act} {Q:Exit→Act→World→Prop} (hgd:o.guard=none) (s x:Operand)
  (ho:o.op=.call { callee:=.builtin .append,args:=#[s,x],argTypes:=#[24,24] })
  (base:Nat) (v:Value) (xs ys:List Int) (A:Option Addr) (c m:Nat) (hs:a.eval s=v) (hown:Ej w base v xs) (hx:a.eval x=.slice A ys.length c) (hn:A=none→c=0) (hc:Am w m A (CO ys))
  (hlen:xs.length+ys.length≤1000000) (hbase:base≤w.heap.size)
  (h:∀ v' w',Ej w' base v' (xs++ys)→w.grownBy w' v.ownBlock→Below base w w'→wpList Tryz.prog ops Q rest (a.put o.dst v') w'):wpList Tryz.prog ops Q (o::rest) a w:=by
 obtain ⟨i0,hi,hz0,hz1,hz2⟩:=info_parts YH
 rcases A with _|⟨b,off,l⟩
 ·have hy:ys=[]:=by
   rcases ys with _|⟨y,ys⟩
   ·rfl
   ·obtain ⟨b,off,hA,_⟩:=hc (by simp [CO])
    cases hA
  subst hy
  have hc0:=hn rfl
  subst hc0
  exact wpList_append_own_none hgd s x 24 ho base 3 i0 1 Nv hi v xs.length (CO xs) hs hown hx (h v w (by rw [List.append_nil];exact hown) ⟨rfl,rfl,rfl,Nat.le_refl _,fun _ _ _=>rfl⟩ (Below.refl _ _))
 ·refine wpList_append_own w hgd s x 24 ho base 3 i0 (.int .i64 0) 1 8 Nv hi hz0 hz1 hz2 rfl (by decide) v xs.length (CO xs) hs hown ⟨b,off,l⟩ ys.length c (CO ys) hx (by simp [CO]) ?_ ?_ (by unfold maxLen;omega) (by omega) hbase (fun v' w' h1 h2 _=>h v' w' ?_ h2 ((Below.refl base w).grown h2 hbase (fun g hg=>(World.ownsRow.lt hown g hg).1)))
  ·intro j u hu
   obtain ⟨b',off',hA,_,_,hcc⟩:=hc (fun h0=>by rw [h0] at hu;simp at hu)
   cases hA
   have hu':=hcc j u hu
   rcases j with _|j
   ·simpa [Addr.add] using hu'
   ·simpa [Addr.add] using hu'
  ·intro u hu
   obtain ⟨z,_,rfl⟩:=List.mem_map.1 hu
   rfl
  ·have e:CO (xs++ys)=CO xs++CO ys:=by simp [CO]
   unfold Ej
   rw [e,List.length_append]
   exact h1
theorem Ej.alloc {w:World} {base:Nat} {v:Value} {xs:List Int} (h:Ej w base v xs) (o:Obj):Ej (w.alloc o) base v xs:=World.ownsRow.alloc h o
theorem Hl {w:World} {ops:Array Oper} {rest:List Oper} {o:Oper} {a:Act} {Q:Exit→Act→World→Prop} (hgd:o.guard=none) (s x:Operand)
  (ho:o.op=.call { callee:=.builtin .append,args:=#[s,x],argTypes:=#[24,24] })
  (base:Nat) (v:Value) (xs:List Int) (z:Int) (g:Nat) (hs:a.eval s=v) (hown:Ej w base v xs) (hx:a.eval x=.slice (some ⟨g,0,none⟩) 1 1) (hg:w.cell? ⟨g,0,none⟩=some (.int .i64 z))
  (hlen:xs.length<1000000) (hbase:base≤w.heap.size)
  (h:∀ v' w',Ej w' base v' (xs++[z])→w.grownBy w' v.ownBlock→Below base w w'→wpList Tryz.prog ops Q rest (a.put o.dst v') w'):wpList Tryz.prog ops Q (o::rest) a w:=by
 have hgl:g<w.heap.size:=by
  rcases Nat.lt_or_ge g w.heap.size with h|h
  ·exact h
  ·simp [World.cell?,Array.getElem?_eq_none h] at hg
 exact YI hgd s x ho base v xs [z] _ 1 w.heap.size hs hown hx (by simp) (fun _=>⟨g,0,rfl,hgl,hgl,fun j u hu=>by
  rcases j with _|j
  ·simp [CO] at hu;subst hu;exact hg
  ·simp [CO] at hu⟩) (by simp;omega) hbase h
theorem Ej.below {w w':World} {base B:Nat} {v:Value} {xs:List Int} (h:Ej w base v xs) (hb:Below B w w') (hv:∀ g,v.ownBlock=some g→g<B):Ej w' base v xs:=by
 refine ⟨h.1,?_⟩
 rcases h.2 with hn|⟨g,cap,cur,rfl,hbg,hg,rest⟩
 ·exact .inl hn
 ·refine .inr ⟨g,cap,cur,rfl,hbg,?_,rest⟩
  rw [hb.block g (hv g rfl)]
  exact hg
end Go.Proofs.YtmdfjbpggbhgnaaGreatDoor
namespace Go.Proofs.YtmdfjbpggbhgnaaGreatDoor
open Go.RowKit
structure Dg where
 A1:Option Addr
 ps:List Prt
 c1:Nat
 A2:Option Addr
 bs:List Bk
 c2:Nat
 A3:Option Addr
 os:List Int
 c3:Nat
def Dg.vals (d:Dg):List Value:=[.slice d.A1 d.ps.length d.c1,.slice d.A2 d.bs.length d.c2,.slice d.A3 d.os.length d.c3]
def Dg.val (d:Dg):Value:=.agg #[.slice d.A1 d.ps.length d.c1,.slice d.A2 d.bs.length d.c2,.slice d.A3 d.os.length d.c3]
def Bk.val (b:Bk):Value:=.agg #[.int .i64 b.kind,.slice b.A b.args.length b.cap,.int .i64 b.vn,.int .i64 b.ve,.int .i64 b.un,.int .i64 b.ue]
structure Ta (w:World) (m:Nat) (d:Dg):Prop where
 ps:Am w m d.A1 (Hb Prt.cells d.ps)
 bs:Am w m d.A2 (Hb Bk.cells d.bs)
 os:Am w m d.A3 (CO d.os)
 args:∀ b∈d.bs,Am w m b.A (CO b.args)∧b.args.length≤1000000
 l1:d.ps.length≤1000000
 l2:d.bs.length≤1000000
 l3:d.os.length≤1000000
theorem Ta.below {w w':World} {m B:Nat} {d:Dg} (h:Ta w m d) (hb:Below B w w') (hm:m≤B):Ta w' m d :=
 ⟨h.ps.below hb hm,h.bs.below hb hm,h.os.below hb hm,fun b hb'=>⟨(h.args b hb').1.below hb hm,(h.args b hb').2⟩,h.l1,h.l2,h.l3⟩
theorem Ta.blk {w:World} {m:Nat} {d:Dg} (h:Ta w m d) {k:Nat} (hk:k<d.bs.length) :
  ∃ b off kind A args cap vn ve un ue,d.A2=some ⟨b,off,none⟩∧b<m∧b<w.heap.size∧d.bs[k]?=some ⟨kind,A,args,cap,vn,ve,un,ue⟩ ∧
   w.cell? ⟨b,off+k*6,none⟩=some (.int .i64 kind)∧w.cell? ⟨b,off+k*6+1,none⟩=some (.slice A args.length cap)∧w.cell? ⟨b,off+k*6+2,none⟩=some (.int .i64 vn)∧w.cell? ⟨b,off+k*6+3,none⟩=some (.int .i64 ve) ∧
   w.cell? ⟨b,off+k*6+4,none⟩=some (.int .i64 un)∧w.cell? ⟨b,off+k*6+5,none⟩=some (.int .i64 ue)∧Am w m A (CO args)∧args.length≤1000000:=by
 obtain ⟨b,off,x,hA,hbm,hbs,hx,hc⟩:=h.bs.row (s:=6) (fun _=>rfl) (by omega) hk
 have ha:=h.args x (List.mem_of_getElem? hx)
 obtain ⟨kind,A,args,cap,vn,ve,un,ue⟩:=x
 exact ⟨b,off,kind,A,args,cap,vn,ve,un,ue,hA,hbm,hbs,hx,hc 0 _ rfl,hc 1 _ rfl,hc 2 _ rfl,hc 3 _ rfl,hc 4 _ rfl,hc 5 _ rfl,ha.1,ha.2⟩
theorem Il {bs:List Bk} {k:Nat} {x:Bk} (h:bs[k]?=some x):BU bs k=x.kind:=by simp [BU,h]
theorem Abz {bs:List Bk} {k:Nat} {x:Bk} (h:bs[k]?=some x):Nu bs k=x.args:=by simp [Nu,h]
theorem Hm {bs:List Bk} {k:Nat} {x:Bk} (h:bs[k]?=some x):Du bs k=if x.kind=0 then [] else x.args:=by simp [Du,Il h,Abz h]
theorem Tb {bs:List Bk} {k:Nat} {x:Bk} {over:Bool} (h:bs[k]?=some x):CU bs over k=if x.kind=2∧over=false then [] else if x.kind=0 then [] else x.args:=by simp [CU,Il h,Hm h]
def IntsV (w:World) (m:Nat) (v:Value) (xs:List Int):Prop:=∃ A c,v=.slice A xs.length c∧Am w m A (CO xs)
def RetI (m:Nat) (xs:List Int) (w:World) (e:Ending) (w':World):Prop:=∃ A c,e=.returned (.slice A xs.length c)∧Am w' m A (CO xs)∧Below w.heap.size w w'
def Afj (b:Bk):Value:=if b.kind=0 then .slice none 0 0 else .slice b.A b.args.length b.cap
theorem Im (d:Dg) (i m:Nat) (w:World) (hm:m≤w.heap.size) (hd:Ta w m d) (hi:i<d.bs.length) :
  Calls Tryz.prog 129 #[d.val,.int .i64 (i:Int)] w (RetI m (CU d.bs false i) w):=by
 obtain ⟨b,off,kind,A,args,cap,vn,ve,un,ue,hA,hbm,hbs,hx,g0,g1,g2,g3,g4,g5,ha,hl⟩:=hd.blk hi
 obtain ⟨A1,ps,c1,A2,bs,c2,A3,os,c3⟩:=d
 have h2:=hd.l2
 dsimp only at hA hx hi h2
 subst hA
 have HS:=Lib.hid (Tb (over:=false) hx)
 have HA:=Lib.hid ha
 have hi':(i:Int)<(bs.length:Int):=by omega
 clear hd hx ha
 simp only [Dg.val]
 go_enter Tryz.func129,Tryz.ntmps129
 by_cases k0:kind=0
 ·subst k0
  go_wp2_with fail
  go_ret
  have HK:CU bs false i=[]:=HS.out
  exact ⟨none,0,by rw [HK];rfl,by rw [HK];exact Am.nil_,al_ _ _⟩
 ·have n0:(kind == 0)=false:=by simpa using k0
  by_cases k2:kind=2
  ·subst k2
   go_wp2_with fail
   go_ret
   have HK:CU bs false i=[]:=HS.out
   exact ⟨none,0,by rw [HK];rfl,by rw [HK];exact Am.nil_,al_ _ _⟩
  ·have n2:(kind == 2)=false:=by simpa using k2
   have HK:Hid (CU bs false i=args):=by
    have h:=HS.out
    rw [h,if_neg (by simp [k2])]
    exact if_neg k0
   clear HS k0 k2
   go_wp2_with fail
   go_ret
   exact ⟨A,cap,by rw [HK.out];rfl,by rw [HK.out];exact HA.out.below (al_ _ _) hm,al_ _ _⟩
theorem Nw (b:Bk) (w:World) :
  Calls Tryz.prog 171 #[b.val] w fun e w'=>e=.returned (Afj b)∧Below w.heap.size w w':=by
 obtain ⟨kind,A,args,cap,vn,ve,un,ue⟩:=b
 simp only [Bk.val]
 go_enter Tryz.func171,Tryz.ntmps171
 by_cases k0:kind=0
 ·subst k0
  go_wp2_with fail
  go_ret
  exact ⟨rfl,al_ _ _⟩
 ·have n0:(kind == 0)=false:=by simpa using k0
  have HK:=Lib.hid k0
  clear k0
  go_wp2_with fail
  go_ret
  exact ⟨by unfold Afj;rw [if_neg HK.out];rfl,al_ _ _⟩
def Aej (w:World) (xs:List Int) (n:Int) (i:Value) (wr:World):Prop:=∃ k:Nat,k≤xs.length∧i=.int .i64 k∧n ∉ xs.take k∧wr=w
theorem Om (A:Option Addr) (xs:List Int) (c m:Nat) (n:Int) (w:World) (h:Am w m A (CO xs)) (hl:xs.length≤1000000) :
  Calls Tryz.prog 170 #[.slice A xs.length c,.int .i64 n] w fun e w'=>e=.returned (.bool (xs.contains n))∧w=w':=by
 have H:=Lib.hid h
 clear h
 go_enter Tryz.func170,Tryz.ntmps170
 go_wp2_with fail
 go_loopw [9] (fun i wr=>Aej w xs n i wr) (fun i _=>xs.length - (intOf i).toNat)
 case atStart=>exact ⟨0,Nat.zero_le _,rfl,by simp,rfl⟩
 case round =>
  obtain ⟨k,hk,rfl,ht,rfl⟩:=hrel
  have HT:=Lib.hid ht
  clear ht
  by_cases hlt:k<xs.length
  ·obtain ⟨b,off,x,rfl,hbm,hbs,hx,g⟩:=H.out.int_ hlt
   have HX:=Lib.hid hx
   clear hx
   by_cases hxn:x=n
   ·have e1:(x == n)=true:=by simpa using hxn
    have HN:=Lib.hid hxn
    clear hxn
    go_wp2_with fail
    go_ret
    refine ⟨Sc (Eq.symm ?_),rfl⟩
    rw [List.contains_iff_mem]
    rw [←HN.out]
    exact List.mem_of_getElem? HX.out
   ·have e1:(x == n)=false:=by simpa using hxn
    have HN:=Lib.hid hxn
    clear hxn
    go_wp2_with fail
    refine ⟨⟨k+1,by omega,by go_num,?_,rfl⟩,by simp [intOf];omega⟩
    rw [List.take_add_one,HX.out,List.mem_append]
    rintro (h|h)
    ·exact HT.out h
    ·simp at h;exact HN.out h.symm
  ·go_wp2_with fail
   go_ret
   refine ⟨Sc (Eq.symm ?_),rfl⟩
   have h:=HT.out
   rw [List.take_of_length_le (by omega)] at h
   rw [←Bool.not_eq_true,List.contains_iff_mem]
   exact h
end Go.Proofs.YtmdfjbpggbhgnaaGreatDoor
namespace Go.Proofs.YtmdfjbpggbhgnaaGreatDoor
open Go.RowKit
def FP (l:List Bool):List Value:=l.map Value.bool
def Cs (l:List Nat):List Int:=l.map fun n:Nat=>(n:Int)
def fl (p:Nat→Bool) (k:Nat):List Nat:=(List.range k).filter p
theorem Wc {p:Nat→Bool} {k:Nat} (h:p k=true):fl p (k+1)=fl p k++[k]:=by unfold fl;rw [List.range_succ,List.filter_append];simp [h]
theorem AbA {p:Nat→Bool} {k:Nat} (h:p k=false):fl p (k+1)=fl p k:=by unfold fl;rw [List.range_succ,List.filter_append];simp [h]
theorem AbB (p:Nat→Bool) (k:Nat):(fl p k).length≤k:=by unfold fl;simpa using List.length_filter_le p (List.range k)
def RetO (xs:List Int) (w:World) (e:Ending) (w':World):Prop:=∃ v,e=.returned v∧Ej w' w.heap.size v xs∧Below w.heap.size w w'
def liRel (w:World) (l:List Bool) (v i:Value) (wr:World):Prop:=∃ k:Nat,k≤l.length∧i=.int .i64 k∧Ej wr w.heap.size v (Cs (fl (isM l) k))∧Below w.heap.size w wr
def Ex (bs:List Bk) (i:Nat):Bool:=BU bs i == 2
def AfZ (w:World) (vs:List Value) (bs:List Bk) (v i:Value) (wr:World):Prop:=∃ k:Nat,k≤bs.length∧i=.int .i64 k∧Ej wr (w.heap.size+1) v (Cs (fl (Ex bs) k))∧Below w.heap.size w wr
theorem Ub (d:Dg) (m:Nat) (w:World) (hm:m≤w.heap.size) (hd:Ta w m d) :
  Calls Tryz.prog 79 #[d.val] w (RetO (Cs (CA d.bs)) w):=by
 have HD:=Lib.hid hd
 have h2:=hd.l2
 obtain ⟨A1,ps,c1,A2,bs,c2,A3,os,c3⟩:=d
 dsimp only at h2
 clear hd
 simp only [Dg.val]
 go_enter Tryz.func79,Tryz.ntmps79
 go_wp2_with fail
 go_loopw [3,9] (fun v i wr=>AfZ w [] bs v i wr) (fun _ i _=>bs.length - (intOf i).toNat)
 case atStart=>exact ⟨0,Nat.zero_le _,rfl,Ej.nil_ _ _,al_ _ _⟩
 case round =>
  obtain ⟨k,hk,rfl,hown,hb⟩:=hrel
  have HO:=Lib.hid hown
  clear hown
  by_cases hlt:k<bs.length
  ·obtain ⟨b,off,kind,A,args,cap,vn,ve,un,ue,hA,hbm,hbs,hx,g0,g1,g2,g3,g4,g5,ha,hl⟩:=(HD.out.below hb hm).blk hlt
   dsimp only at hA hx
   subst hA
   clear ha hl
   have HX:=Lib.hid (Il hx)
   dsimp only at HX
   clear hx
   have hbz:=hb.size
   have hb1:=HO.out.1
   by_cases k2:kind=2
   ·subst k2
    have HP:Ex bs k=true:=by unfold Ex;rw [HX.out];rfl
    have HP:=Lib.hid HP
    go_wp2_with (at_builtin;refine Hl rfl _ _ rfl (w.heap.size+1) _ (Cs (fl (Ex bs) k)) (k:Int) (wr.heap.size+1) rfl ((HO.out.alloc _).alloc _) rfl (by simp [go_sem]) (by have:=AbB (Ex bs) k;simp [Cs];omega) (by simp;omega) ?_;intro v' w4 hown hg hb4)
    have hst:Below w.heap.size wr w4:=(((Below.refl _ wr).alloc hbz _).alloc (by simp;omega) _).trans (hb4.mono (by omega))
    exact ⟨⟨k+1,by omega,by go_num,by rw [Wc HP.out];simpa [Cs] using hown,hb.trans hst⟩,by simp [intOf];omega⟩
   ·have HP:Ex bs k=false:=by unfold Ex;rw [HX.out];simpa using k2
    have HP:=Lib.hid HP
    have n2:(kind == 2)=false:=by simpa using k2
    clear k2
    go_wp2_with fail
    exact ⟨⟨k+1,by omega,by go_num,by rw [AbA HP.out];exact HO.out.alloc _,Aq hb _⟩,by simp [intOf];omega⟩
  ·go_wp2_with fail
   have e:k=bs.length:=by omega
   subst e
   obtain ⟨A',c',hv,_⟩:=HO.out.view
   subst hv
   go_ret
   exact ⟨_,rfl,HO.out.base_ (by omega),hb⟩
end Go.Proofs.YtmdfjbpggbhgnaaGreatDoor
namespace Go.Proofs.YtmdfjbpggbhgnaaGreatDoor
open Go.ChangeShapes Go.WideShapes Go.ChangeAt Go.RowKit Go.Joins Go.Deep
theorem Oo {α:Type} {f:α→List Value} {s:Nat} (hf:∀ x,(f x).length=s) (l:List α):(Hb f l).length=l.length*s:=by
 induction l with
 | nil=>simp [Hb]
 | cons x l ih =>
  simp only [Hb,List.map_cons,List.flatten_cons,List.length_append,hf] at ih ⊢
  rw [ih,List.length_cons,Nat.succ_mul,Nat.add_comm]
theorem YJ {cs:List Value} (h:∀ c∈cs,∃z:Int,c=.int .i64 z ∧ -9223372036854775808≤z∧z≤9223372036854775807):∃ zs:List Int,cs=CO zs∧∀ z∈zs,-9223372036854775808≤z∧z≤9223372036854775807:=by
 induction cs with
 | nil=>exact ⟨[],rfl,by simp⟩
 | cons c cs ih =>
  obtain ⟨zs,rfl,hz⟩:=ih (fun c hc=>h c (by simp [hc]))
  obtain ⟨z,rfl,hb⟩:=h c (by simp)
  exact ⟨z::zs,rfl,fun y hy=>by
   rcases List.mem_cons.1 hy with rfl|hy
   ·exact hb
   ·exact hz y hy⟩
section
variable {H:Type} {enc:TypeId × Value→H} {P:Program} {w:World} {spare:Nat→Bool} {held:Bool}
theorem Tc {e:TypeId} {fs:Array Field} {fuel:Nat} {cs:List Value} {x:DataW H × List MemPlace} (hs:P.underlying e=some (.struct fs)) (hone:oneCellFields P fs=true) (hint:∀ (i:Nat) (f:Field),fs[i]?=some f→P.underlying f.type=some (.int .i64)) (hC:P.cellsOf e=fs.size)
  (h:DataW.trod enc P w 0 spare held fuel e cs=some x):∃ zs:List Int,cs=CO zs∧zs.length=fs.size∧∀ z∈zs,-9223372036854775808≤z∧z≤9223372036854775807:=by
 obtain ⟨xs,n,_,_,hlen,hxl,hg⟩:=DataW.trod_struct hs h
 obtain ⟨zs,rfl,hz⟩:=YJ (cs:=cs) (fun c hc=>by
  obtain ⟨i,hi⟩:=List.getElem?_of_mem hc
  have hil:i<cs.length:=(List.getElem?_eq_some_iff.1 hi).1
  have hif:i<fs.size:=by omega
  have hf:fs[i]?=some fs[i]:=by simp [hif]
  obtain ⟨o0,k0⟩:=hone_of hone i fs[i] hf
  have hgi:=hg i fs[i] hf
  rw [o0,k0,take1_drop cs i undef hil,List.getElem?_eq_getElem (by omega)] at hgi
  obtain ⟨z,hz,_,hw⟩:=DataW.trod_int (hint i fs[i] hf) hgi
  have hd:cs.getD i undef=c:=by simp [List.getD,hi]
  rw [hd] at hz
  exact ⟨z,by simpa using hz,bounds_i64 hw⟩)
 exact ⟨zs,rfl,by rw [←Lg,hlen,hC],hz⟩
theorem Qa {α:Type} {f:α→List Value} {s:Nat} (mk:List Int→α) (hmk:∀ zs,zs.length=s→f (mk zs)=CO zs) (hfl:∀ x,(f x).length=s) (hs0:0<s) {t e:TypeId} {fs:Array Field} {fuel:Nat} {v:Value} {x:DataW H × List MemPlace} (ht:P.underlying t=some (.slice e)) (hs:P.underlying e=some (.struct fs)) (hone:oneCellFields P fs=true) (hint:∀ (i:Nat) (f:Field),fs[i]?=some f→P.underlying f.type=some (.int .i64)) (hC:P.cellsOf e=fs.size) (hsz:fs.size=s)
  (h:DataW.trod enc P w 0 spare held fuel t [v]=some x) :
  ∃ (A:Option Addr) (cap:Nat) (l:List α),v=.slice A l.length cap∧(A=none→cap=0)∧l.length≤cap∧l.length≤maxLen∧Am w w.heap.size A (Hb f l)∧(∀ x∈l,∃zs,x=mk zs∧zs.length=s∧∀ z∈zs,-9223372036854775808≤z∧z≤9223372036854775807):=by
 rcases open_slice ht h with ⟨hcs,_⟩|⟨a,len,cap,m,n,D,Pl,hcs,_,hl,hm,hmm,_,hx⟩
 ·exact ⟨none,0,[],by simpa using hcs,fun _=>rfl,Nat.le_refl _,Nat.zero_le _,Am.nil_,by simp⟩
 ·have hle:len≤m:=by rw [hmm];split <;> omega
  rw [hC,hsz] at hx
  obtain ⟨R,hR⟩:=choose_lt (α:=List Int) (n:=len) (p:=fun i zs=>zs.length=s∧(∀ z∈zs,-9223372036854775808≤z∧z≤9223372036854775807)∧∀ j,j<s→w.cell? (a.add (i*s+j))=(CO zs)[j]?) (fun i hi=>by
   obtain ⟨cs',h1,h2⟩:=hx i (by omega)
   obtain ⟨zs,rfl,hzl,hzb⟩:=Tc hs hone hint hC h2
   obtain ⟨_,hlen,hcell⟩:=World.cells?_some h1
   exact ⟨zs,hzl.trans hsz,hzb,fun j hj=>by rw [←add_add];exact hcell j hj⟩)
  refine ⟨some a,cap,(List.range len).map (fun i=>mk (R i)),by simpa using hcs,by simp,by simpa using hl,by simp;omega,fun hne=>?_,?_⟩
  ·have hpos:0<len:=by
    rcases Nat.eq_zero_or_pos len with h0|h0
    ·subst h0;simp [Hb] at hne
    ·exact h0
   obtain ⟨b,off,spot⟩:=a
   have h00:=(hR 0 hpos).2.2 0 hs0
   have hz0:(CO (R 0))[0]?=some ((CO (R 0))[0]'(by rw [Lg,(hR 0 hpos).1];exact hs0)):=List.getElem?_eq_getElem _
   rw [hz0] at h00
   have hspot:spot=none:=by simpa [Addr.add] using World.cell?_spot h00
   subst hspot
   have hb:b<w.heap.size:=by
    rcases Nat.lt_or_ge b w.heap.size with h|h
    ·exact h
    ·simp [World.cell?,Addr.add,Array.getElem?_eq_none h] at h00
   refine ⟨b,off,rfl,hb,hb,fun j u hu=>?_⟩
   have hjl:j<len*s:=by
    have:=(List.getElem?_eq_some_iff.1 hu).1
    rw [Oo hfl] at this
    simpa using this
   have hk:j / s<len:=Nat.div_lt_of_lt_mul (by rw [Nat.mul_comm];exact hjl)
   have hr:j % s<s:=Nat.mod_lt _ hs0
   have hj:j / s*s+j % s=j:=by rw [Nat.mul_comm];exact Nat.div_add_mod j s
   have hg:((List.range len).map (fun i=>mk (R i)))[j / s]?=some (mk (R (j / s))):=by simp [hk]
   have h1:=Gd hfl hg hr
   rw [hj,hu,hmk _ (hR _ hk).1] at h1
   have h2:=(hR _ hk).2.2 (j % s) hr
   rw [hj,←h1] at h2
   rw [←Go.WideShapes.add_plain]
   exact h2
  ·intro y hy
   obtain ⟨i,hi,rfl⟩:=List.mem_map.1 hy
   have:=hR i (by simpa using hi)
   exact ⟨_,rfl,this.1,this.2.1⟩
theorem Fj {t e:TypeId} {fuel:Nat} {v:Value} {x:DataW H × List MemPlace} (ht:P.underlying t=some (.slice e)) (he:P.underlying e=some (.int .i64)) (hc:P.cellsOf e=1)
  (h:DataW.trod enc P w 0 spare held fuel t [v]=some x) :
  ∃ (A:Option Addr) (cap:Nat) (zs:List Int),v=.slice A zs.length cap∧(A=none→cap=0)∧zs.length≤cap∧zs.length≤maxLen∧Am w w.heap.size A (CO zs)∧(∀ z∈zs,-9223372036854775808≤z∧z≤9223372036854775807):=by
 obtain ⟨A,cap,zs,hv,h1,h2,h3,h4⟩:=Po ht he hc h
 refine ⟨A,cap,zs,hv,fun hA=>?_,h1,h2,h3,h4⟩
 subst hA hv
 rcases open_slice ht h with ⟨hcs,_⟩|⟨a,len,cap',m,n,D,Pl,hcs,_⟩
 ·simp at hcs
  exact hcs.2
 ·simp at hcs
end
end Go.Proofs.YtmdfjbpggbhgnaaGreatDoor
namespace Go.Proofs.YtmdfjbpggbhgnaaGreatDoor
open Go.RowKit
theorem AbC {w:World} {base e g n:Nat} {xs:List Value} (h:w.ownsRow base e 1 (.slice (some ⟨g,0,none⟩) n n) n xs):Bh w g xs e:=by
 obtain ⟨hl,h2⟩:=h
 rcases h2 with ⟨h',_⟩|⟨g',cap',cur,h',hb,hg,hnc,hcm,hcs,htake⟩
 ·simp at h'
 ·simp only [Value.slice.injEq,Option.some.injEq,Addr.mk.injEq,and_true,true_and] at h'
  obtain ⟨rfl,rfl⟩:=h'
  rw [List.take_of_length_le (by simp;omega)] at htake
  unfold Bh
  rw [hg,←htake]
structure Uc (g:Nat) (w w':World):Prop where
 os:w'.os=w.os
 tape:w'.tape=w.tape
 output:w'.output=w.output
 size:w.heap.size≤w'.heap.size
 block:∀ k,k<w.heap.size→k≠g→w'.heap[k]?=w.heap[k]?
theorem Qb (l:List Bool) (i:Nat) (x:Bool):FP (l.set i x)=(FP l).set i (.bool x):=by simp [FP,List.map_set]
theorem Hn {l:List Bool} {i:Nat} (h:i<l.length):(FP l)[i]?=some (.bool (isM l i)):=by simp [FP,isM,h]
def MarkP (bs:List Bk) (over:Bool) (l:List Bool) (i g:Nat) (w:World) (e:Ending) (w':World):Prop :=
 e=.returned (.tuple #[])∧∃ l',YD bs over l i l'∧Bh w' g (FP l') 4∧Uc g w w'
def mkRel (bs:List Bk) (over:Bool) (l:List Bool) (i g:Nat) (w:World) (vs:List Value) (v:Value) (wr:World):Prop :=
 ∃ k l',k≤(CU bs over i).length∧v=.int .i64 ((k:Nat):Int)∧Abw bs over l i k l'∧Bh wr g (FP l') 4∧Bh wr w.heap.size vs 26∧Uc g w wr
theorem Wd {bs:List Bk} {k:Nat} {x:Bk} {over:Bool} (h:bs[k]?=some x) (hl:x.args.length≤1000000):(CU bs over k).length≤1000000:=by
 rw [Tb h]
 split
 ·simp
 ·split
  ·simp
  ·exact hl
end Go.Proofs.YtmdfjbpggbhgnaaGreatDoor
namespace Go.Proofs.YtmdfjbpggbhgnaaGreatDoor
open Go.RowKit
def Aga (bs:List Bk) (over:Bool) (m:List Bool) (i:Nat):List Bool:=(List.range i).foldl (Aeg bs over) m
def Agb (xs:List Int) (c:List Bool) (t:Nat):List Bool:=(xs.take t).foldl (fun m a=>m.set a.toNat true) c
def NeedP (bs:List Bk) (over:Bool) (l:List Bool) (g:Nat) (w:World) (e:Ending) (w':World):Prop :=
 e=.returned (.slice (some ⟨g,0,none⟩) bs.length bs.length)∧Bh w' g (FP (SR bs over bs.length l)) 4∧Uc g w w'
def nd1 (bs:List Bk) (over:Bool) (l:List Bool) (g:Nat) (w:World) (vs:List Value) (v:Value) (wr:World):Prop :=
 ∃ k:Nat,k≤bs.length∧v=.int .i64 (k:Int)∧Bh wr g (FP (SR bs over k l)) 4∧Bh wr w.heap.size vs 26∧Uc g w wr
def nd2 (bs:List Bk) (over:Bool) (l:List Bool) (g:Nat) (w:World) (vs:List Value) (v:Value) (wr:World):Prop :=
 ∃ i:Nat,i≤bs.length∧v=.int .i64 (i:Int)∧Bh wr g (FP (Aga bs over l i)) 4∧Bh wr w.heap.size vs 26∧Uc g w wr
def nd3 (xs:List Int) (c:List Bool) (g:Nat) (w:World) (vs:List Value) (v:Value) (wr:World):Prop :=
 ∃ t:Nat,t≤xs.length∧v=.int .i64 (t:Int)∧Bh wr g (FP (Agb xs c t)) 4∧Bh wr w.heap.size vs 26∧Uc g w wr
end Go.Proofs.YtmdfjbpggbhgnaaGreatDoor
namespace Go.Proofs.YtmdfjbpggbhgnaaGreatDoor
open Go.RowKit
theorem Ej.call {w w':World} {base:Nat} {v:Value} {xs:List Int} (h:Ej w base v xs) (hb:Below w.heap.size w w'):Ej w' base v xs:=h.below hb (fun g hg=>(World.ownsRow.lt h g hg).2)
theorem DU (l:List Nat):(Cs l).length=l.length:=by simp [Cs]
theorem Oq (l:List Nat) (i:Nat):Cs (l++[i])=Cs l++[(i:Int)]:=by simp [Cs]
theorem Ln (l:List Nat) (i:Nat):(Cs l).contains (i:Int)=l.contains i:=by
 induction l with
 | nil=>rfl
 | cons x l ih =>
  show List.contains ((x:Int)::Cs l) (i:Int)=_
  rw [List.contains_cons,List.contains_cons,ih]
  have e:((i:Int) == (x:Int))=(i == x):=by
   by_cases h:i=x
   ·subst h;simp
   ·rw [beq_eq_false_iff_ne.2 h,beq_eq_false_iff_ne.2 (show ¬ (i:Int)=(x:Int) by omega)]
  rw [e]
theorem Io (bs:List Bk) (out:List Nat) (i:Nat):rdy bs out i=(!Ei bs out i && (Du bs i).all fun a=>Ei bs out a.toNat):=rfl
def Ot (bs:List Bk) (out:List Nat) (k:Nat):Prop:=∀ j,j<k→rdy bs out j=false
theorem Ot.zero (bs:List Bk) (out:List Nat):Ot bs out 0:=fun j h=>absurd h (Nat.not_lt_zero j)
theorem Ot.succ {bs:List Bk} {out:List Nat} {k:Nat} (h:Ot bs out k) (h2:rdy bs out k=false):Ot bs out (k+1):=fun j hj=>by
 by_cases e:j=k
 ·subst e;exact h2
 ·exact h j (by omega)
theorem Ud {p:Nat→Bool} {n k:Nat} (hk:k<n) (h:∀ j,j<k→p j=false) (h2:p k=true):(List.range n).find? p=some k:=by
 rw [List.find?_eq_some_iff_append]
 refine ⟨h2,List.range k,(List.range n).drop (k+1),?_,fun a ha=>by simpa using h a (by simpa using ha)⟩
 refine List.ext_getElem? fun i=>?_
 rcases Nat.lt_trichotomy i k with h3|h3|h3
 ·rw [List.getElem?_append_left (by simpa using h3)]
  simp [h3,show i<n by omega]
 ·subst h3
  rw [List.getElem?_append_right (by simp)]
  simp [hk]
 ·rw [List.getElem?_append_right (by simp;omega)]
  simp only [List.length_range]
  obtain ⟨q,rfl⟩:∃ q,i=k+1+q:=⟨i - k - 1,by omega⟩
  rw [show k+1+q - k=q+1 by omega]
  simp [List.getElem?_drop]
theorem We {p:Nat→Bool} {n:Nat} (h:∀ j,j<n→p j=false):(List.range n).find? p=none:=by
 rw [List.find?_eq_none]
 intro x hx
 simpa using h x (by simpa using hx)
theorem Aaf {bs:List Bk} {out:List Nat} {k:Nat} (hk:k<bs.length) (h:Ot bs out k) (h2:rdy bs out k=true):nxt bs out=some k:=Ud hk h h2
theorem YK {bs:List Bk} {out:List Nat} (h:Ot bs out bs.length):nxt bs out=none:=We h
structure GP (bs:List Bk) (out:List Nat):Prop where
 ok:GO bs out
 more:Rf bs bs.length out=Dc bs
theorem GP.nil (bs:List Bk):GP bs []:=⟨GO.nil bs,rfl⟩
theorem GP.push {bs:List Bk} {out:List Nat} {i:Nat} (h:GP bs out) (hn:nxt bs out=some i):GP bs (out++[i]):=by
 refine ⟨h.ok.push hn,?_⟩
 have h1:=PW bs.length (bs.length+1) h.ok (by have:=Hk bs;omega) (by omega)
 rw [←h.more,h1]
 show _=match nxt bs out with|none=>out|some i=>Rf bs bs.length (out++[i])
 rw [hn]
theorem GP.done {bs:List Bk} {out:List Nat} (h:GP bs out) (hn:nxt bs out=none):Dc bs=out:=by
 rw [←h.more]
 cases hb:bs.length with
 | zero=>rfl
 | succ f =>
  show (match nxt bs out with|none=>out|some i=>Rf bs f (out++[i]))=out
  rw [hn]
theorem GP.full {bs:List Bk} {out:List Nat} (h:GP bs out) (hf:Dl bs≤out.length):Dc bs=out:=by
 refine h.done ?_
 cases hn:nxt bs out with
 | none=>rfl
 | some i =>
  have:=(h.ok.push hn).le
  simp at this
  omega
theorem GP.lt {bs:List Bk} {out:List Nat} {i:Nat} (h:GP bs out) (hn:nxt bs out=some i):out.length<Dl bs:=by
 have:=(h.ok.push hn).le
 simp at this
 omega
def QL (bs:List Bk) (out:List Nat) (xs:List Int) (t:Nat):Bool:=(xs.take t).all fun a=>Ei bs out a.toNat
theorem Mn {bs:List Bk} {out:List Nat} {xs:List Int} {t:Nat} {a:Int} (h:xs[t]?=some a):QL bs out xs (t+1)=(QL bs out xs t && Ei bs out a.toNat):=by
 unfold QL
 rw [List.take_add_one,h,List.all_append]
 simp
theorem Ou {bs:List Bk} {out:List Nat} {xs:List Int} {t:Nat} (h:xs.length≤t):QL bs out xs t=xs.all fun a=>Ei bs out a.toNat:=by unfold QL;rw [List.take_of_length_le h]
def lenOf:Value→Nat
 | .slice _ n _=>n
 | _=>0
def ro1 (bs:List Bk) (w:World) (vs:List Value) (v:Value) (wr:World):Prop :=
 ∃ outN,Ej wr (w.heap.size+1) v (Cs outN)∧GP bs outN∧Bh wr w.heap.size vs 26∧Below w.heap.size w wr
def ro2 (bs:List Bk) (outN:List Nat) (w:World) (vs:List Value) (v p i:Value) (wr:World):Prop :=
 ∃ k:Nat,k≤bs.length∧i=.int .i64 (k:Int)∧p=.int .i64 (-1)∧Ot bs outN k∧Ej wr (w.heap.size+1) v (Cs outN)∧Bh wr w.heap.size vs 26∧Below w.heap.size w wr
def ro3 (bs:List Bk) (outN:List Nat) (xs:List Int) (w:World) (vs:List Value) (v r i:Value) (wr:World):Prop :=
 ∃ t:Nat,t≤xs.length∧i=.int .i64 (t:Int)∧r=.bool (QL bs outN xs t)∧Ej wr (w.heap.size+1) v (Cs outN)∧Bh wr w.heap.size vs 26∧Below w.heap.size w wr
theorem Ej.cells {w:World} {base n c:Nat} {A:Option Addr} {xs:List Int} (h:Ej w base (.slice A n c) xs):Am w w.heap.size A (CO xs):=by
 obtain ⟨A',c',hv,_,hc⟩:=h.view
 cases hv
 exact hc
theorem Ej.len {w:World} {base:Nat} {v:Value} {xs:List Int} (h:Ej w base v xs):lenOf v=xs.length:=by
 obtain ⟨A',c',hv,_,hc⟩:=h.view
 subst hv
 rfl
theorem Am.two {w w3 wr:World} {m:Nat} {A:Option Addr} {xs:List Value} (h:Am w3 m A xs) (h3:Below w.heap.size w w3) (hr:Below w.heap.size w wr) (hm:m≤w.heap.size):Am wr m A xs:=fun hx=>by
 obtain ⟨b,off,hA,hbm,hbs,hc⟩:=h hx
 have hb:b<w.heap.size:=by omega
 refine ⟨b,off,hA,hbm,Nat.lt_of_lt_of_le hb hr.size,fun j u hu=>?_⟩
 rw [hr.cell (p:=⟨b,off+j,none⟩) hb,←h3.cell (p:=⟨b,off+j,none⟩) hb]
 exact hc j u hu
theorem Gj {bs:List Bk} {out:List Nat} {a:Nat} {x:Bk} (h:bs[a]?=some x):Ei bs out a=(x.kind == 2 || out.contains a):=by unfold Ei;rw [Il h]
theorem Ue (d:Dg) (m:Nat) (w:World) (hm:m≤w.heap.size) (hd:Ta w m d) (hok:SQ d.bs) :
  Calls Tryz.prog 78 #[d.val] w (RetO (Cs (Dc d.bs)) w):=by
 have h2:=hd.l2
 have HD:=Lib.hid hd
 have HOK:=Lib.hid hok
 clear hok hd
 obtain ⟨A1,ps,c1,A2,bs,c2,A3,os,c3⟩:=d
 dsimp only at h2 HOK
 simp only [Dg.val]
 have r0:=Bh.new_ w [.slice A1 ps.length c1,.slice A2 bs.length c2,.slice A3 os.length c3] 26
 have hnd:=Hk bs
 go_enter Tryz.func78,Tryz.ntmps78
 go_wp2_with fail
 go_loopw [3] (fun v wr=>ro1 bs w [.slice A1 ps.length c1,.slice A2 bs.length c2,.slice A3 os.length c3] v wr) (fun v _=>Dl bs - lenOf v)
 case atStart=>exact ⟨[],Ej.nil_ _ _,GP.nil _,r0,al_ _ _⟩
 case round =>
  as_aux_lemma =>
   clear r0
   obtain ⟨outN,hown,hord,hbox,hb⟩:=hrel
   obtain ⟨A,c,rfl,hAc,_⟩:=hown.view
   have hle:=hord.ok.le
   have hlo:(Cs outN).length≤1000000:=by rw [DU];omega
   have b1:wr.cell? ⟨w.heap.size,1,none⟩=some (.slice A2 bs.length c2):=hbox.cell 1
   have z0:=hbox.lt
   have HO:=Lib.hid hown
   have HB:=Lib.hid hbox
   have HORD:=Lib.hid hord
   clear hown hbox hord hAc
   go_wp2_with fail
   clear b1 z0
   obtain ⟨w1,hw1⟩:∃ w1,w1=wr:=⟨_,rfl⟩
   rw [←hw1] at HO HB hb
   rw [←hw1]
   clear hw1
   go_loopw [4,13] (fun p i wr=>ro2 bs outN w [.slice A1 ps.length c1,.slice A2 bs.length c2,.slice A3 os.length c3] (.slice A (Cs outN).length c) p i wr) (fun _ i _=>bs.length - (intOf i).toNat)
   case atStart=>exact ⟨0,Nat.zero_le _,rfl,rfl,Ot.zero _ _,HO.out,HB.out,hb⟩
   case round =>
    as_aux_lemma =>
     clear HO HB hb
     obtain ⟨k,hk,rfl,rfl,hnone,hown,hbox,hb⟩:=hrel
     have b1:wr.cell? ⟨w.heap.size,1,none⟩=some (.slice A2 bs.length c2):=hbox.cell 1
     have z0:=hbox.lt
     have HO:=Lib.hid hown
     have HB:=Lib.hid hbox
     have HN:=Lib.hid hnone
     clear hown hbox hnone
     by_cases hkl:k<bs.length
     ·obtain ⟨b,off,kind,KA,args,cap,vn,ve,un,ue,hA,hbm,hbs,hx,g0,g1,g2,g3,g4,g5,ha,hl⟩:=(HD.out.below hb hm).blk hkl
      dsimp only at hA hx
      subst hA
      have hln:(Du bs k).length≤1000000:=by rw [Hm hx];split <;> simp;exact hl
      have HX:=Lib.hid hx
      have HA:=Lib.hid ha
      clear hx ha hl
      have n1:Below w.heap.size w (wr.alloc (.cells #[.int .i64 kind,.slice KA args.length cap,.int .i64 vn,.int .i64 ve,.int .i64 un,.int .i64 ue] 63)):=Aq hb _
      by_cases hk2:kind=2
      ·have hr:rdy bs outN k=false:=by
        rw [Io,Gj HX.out]
        simp [hk2]
       have HRD:=Lib.hid hr
       subst hk2
       clear hr
       go_wp2_with fail
       exact ⟨⟨k+1,by omega,by go_num,rfl,HN.out.succ HRD.out,HO.out.alloc _,HB.out.call (al_ _ _),n1⟩,by simp [intOf];omega⟩
      ·have hkb:(kind == 2)=false:=by simpa using hk2
       have HC6:=Lib.hid (HO.out.alloc (.cells #[.int .i64 kind,.slice KA args.length cap,.int .i64 vn,.int .i64 ve,.int .i64 un,.int .i64 ue] 63))
       cases hct:outN.contains k with
       | true =>
        have hr:rdy bs outN k=false:=by
         rw [Io,Gj HX.out,hct]
         simp
        have HRD:=Lib.hid hr
        have HCT:=Lib.hid hct
        clear hr hct hk2
        go_wp2_with (go_at_call 170;refine (Om A (Cs outN) c _ (k:Int) _ HC6.out.cells hlo).mono ?_;rintro e w5 ⟨rfl,rfl⟩;rw [Ln,HCT.out])
        exact ⟨⟨k+1,by omega,by go_num,rfl,HN.out.succ HRD.out,HO.out.alloc _,HB.out.call (al_ _ _),n1⟩,by simp [intOf];omega⟩
       | false =>
        have HCT:=Lib.hid hct
        have HK2:=Lib.hid hk2
        clear hct hk2
        go_wp2_with (go_at_call 170;refine (Om A (Cs outN) c _ (k:Int) _ HC6.out.cells hlo).mono ?_;rintro e w5 ⟨rfl,rfl⟩;rw [Ln,HCT.out])
        by_cases hk0:kind=0
        ·subst hk0
         have hs:Du bs k=[]:=by
          rw [Hm HX.out]
          simp
         obtain ⟨X,hX⟩:∃ X:Option Addr,X=none:=⟨_,rfl⟩
         have HXN:=Lib.hid hX
         clear hX
         have HS:Hid (Am wr m X (CO (Du bs k))):=by rw [hs];exact Am.nil_
         have HE:=Lib.hid hs
         clear hs
         go_at_call 171
         refine (Nw ⟨0,KA,args,cap,vn,ve,un,ue⟩ _).mono ?_
         rintro e w5 ⟨he,hb5⟩
         obtain rfl:=he.trans (show _=Ending.returned (.slice X (Du bs k).length 0) by unfold Afj;rw [if_pos rfl,HE.out,HXN.out];rfl)
         clear he
         have O5:=Lib.hid ((HO.out.alloc _).call hb5)
         have B5:=Lib.hid ((HB.out.call (al_ _ _)).call hb5)
         have N5:=Lib.hid (n1.trans (hb5.mono (by have:=hb.size;simp;omega)))
         have HBL:=Lib.hid hb
         clear hb5 n1 g0 g1 g2 g3 g4 g5 b1 z0
         go_wp2_with fail
         go_loopw [7,29] (fun r i wr=>ro3 bs outN (Du bs k) w [.slice A1 ps.length c1,.slice (some ⟨b,off,none⟩) bs.length c2,.slice A3 os.length c3] (.slice A (Cs outN).length c) r i wr) (fun _ i _=>(Du bs k).length - (intOf i).toNat)
         case atStart=>exact ⟨0,Nat.zero_le _,rfl,rfl,O5.out,B5.out,N5.out⟩
         case round =>
          as_aux_lemma =>
           clear O5 B5 N5 HC6
           obtain ⟨t,ht,rfl,rfl,hown,hbox,hb7⟩:=hrel
           have HO7:=Lib.hid hown
           have HB7:=Lib.hid hbox
           have b1:wr.cell? ⟨w.heap.size,1,none⟩=some (.slice (some ⟨b,off,none⟩) bs.length c2):=hbox.cell 1
           have z0:=hbox.lt
           clear hown hbox
           by_cases hlt:t<(Du bs k).length
           ·obtain ⟨ab,ao,z,rfl,hab,hab2,hz,hzc⟩:=(Am.two HS.out HBL.out hb7 hm).int_ hlt
            have hzb:=HOK.out k hkl z (List.mem_of_getElem? hz)
            obtain ⟨a,rfl⟩:=Int.eq_ofNat_of_zero_le hzb.1
            have ha:a<bs.length:=by have:=hzb.2;omega
            have hai:(a:Int)<(bs.length:Int):=by omega
            have HZ:=Lib.hid (Mn (bs:=bs) (out:=outN) hz)
            clear hz hzb
            obtain ⟨b',off',kd,KA',args',cap',vn',ve',un',ue',hA',hbm',hbs',hx',g0,_,_,_,_,_,_,_⟩:=(HD.out.below hb7 hm).blk ha
            dsimp only at hA' hx'
            cases hA'
            have HDN:=Lib.hid (Gj (out:=outN) hx')
            dsimp only at HDN
            clear hx'
            cases hr:QL bs outN (Du bs k) t with
            | false =>
             have HRT:=Lib.hid hr
             clear hr
             go_wp2_with fail
             exact ⟨⟨t+1,by omega,by go_num,by rw [HZ.out,HRT.out];rfl,HO7.out,HB7.out,hb7⟩,by simp [intOf];omega⟩
            | true =>
             have HRT:=Lib.hid hr
             clear hr
             by_cases hd2:kd=2
             ·subst hd2
              go_wp2_with fail
              exact ⟨⟨t+1,by omega,by go_num,by rw [HZ.out,HRT.out,Int.toNat_natCast,HDN.out];rfl,HO7.out,HB7.out,hb7⟩,by simp [intOf];omega⟩
             ·have hdb:(kd == 2)=false:=by simpa using hd2
              have HDB:=Lib.hid hdb
              clear hd2
              go_wp2_with (go_at_call 170;refine (Om A (Cs outN) c _ (a:Int) _ HO7.out.cells hlo).mono ?_;rintro e w5 ⟨rfl,rfl⟩;rw [Ln])
              exact ⟨⟨t+1,by omega,by go_num,by rw [HZ.out,HRT.out,Int.toNat_natCast,HDN.out,HDB.out];simp,HO7.out,HB7.out,hb7⟩,by simp [intOf];omega⟩
           ·have hrd:rdy bs outN k=QL bs outN (Du bs k) t:=by
             rw [Io,Gj HX.out,HCT.out,Ou (by omega)]
             simp [HK2.out]
            cases hr:QL bs outN (Du bs k) t with
            | true =>
             have HNX:=Lib.hid (Aaf hkl HN.out (hrd.trans hr))
             clear hr hrd
             have hb7s:=hb7.size
             have h7:=HORD.out.lt HNX.out
             have hlt7:(Cs outN).length<1000000:=by rw [DU];omega
             go_wp2_with (at_builtin;refine Hl rfl _ _ rfl (w.heap.size+1) _ (Cs outN) (k:Int) wr.heap.size rfl (HO7.out.alloc _) rfl (by simp [go_sem]) hlt7 (by simp;omega) ?_;intro v' w4 hown hg hb4)
             have hst:Below (w.heap.size+1) wr w4:=((Below.refl _ wr).alloc (by omega) _).trans hb4
             refine ⟨⟨outN++[k],by rw [Oq];exact hown,HORD.out.push HNX.out,HB7.out.below hst (by omega),hb7.trans (hst.mono (by omega))⟩,?_⟩
             rw [hown.len]
             simp [lenOf,DU]
             omega
            | false =>
             have HRD:=Lib.hid (hrd.trans hr)
             clear hr hrd
             go_wp2_with fail
             exact ⟨⟨k+1,by omega,by go_num,rfl,HN.out.succ HRD.out,HO7.out,HB7.out,hb7⟩,by simp [intOf];omega⟩
        ·have hs:args=Du bs k:=by
          rw [Hm HX.out]
          simp [hk0]
         have HS:Hid (Am wr m KA (CO (Du bs k))):=by rw [←hs];exact HA
         have HE:=Lib.hid hs
         have HK0:=Lib.hid hk0
         clear hs hk0
         go_at_call 171
         refine (Nw ⟨kind,KA,args,cap,vn,ve,un,ue⟩ _).mono ?_
         rintro e w5 ⟨he,hb5⟩
         obtain rfl:=he.trans (show _=Ending.returned (.slice KA (Du bs k).length cap) by unfold Afj;rw [if_neg HK0.out];rw [HE.out])
         clear he
         have O5:=Lib.hid ((HO.out.alloc _).call hb5)
         have B5:=Lib.hid ((HB.out.call (al_ _ _)).call hb5)
         have N5:=Lib.hid (n1.trans (hb5.mono (by have:=hb.size;simp;omega)))
         have HBL:=Lib.hid hb
         clear hb5 n1 g0 g1 g2 g3 g4 g5 b1 z0
         go_wp2_with fail
         go_loopw [7,29] (fun r i wr=>ro3 bs outN (Du bs k) w [.slice A1 ps.length c1,.slice (some ⟨b,off,none⟩) bs.length c2,.slice A3 os.length c3] (.slice A (Cs outN).length c) r i wr) (fun _ i _=>(Du bs k).length - (intOf i).toNat)
         case atStart=>exact ⟨0,Nat.zero_le _,rfl,rfl,O5.out,B5.out,N5.out⟩
         case round =>
          as_aux_lemma =>
           clear O5 B5 N5 HC6
           obtain ⟨t,ht,rfl,rfl,hown,hbox,hb7⟩:=hrel
           have HO7:=Lib.hid hown
           have HB7:=Lib.hid hbox
           have b1:wr.cell? ⟨w.heap.size,1,none⟩=some (.slice (some ⟨b,off,none⟩) bs.length c2):=hbox.cell 1
           have z0:=hbox.lt
           clear hown hbox
           by_cases hlt:t<(Du bs k).length
           ·obtain ⟨ab,ao,z,rfl,hab,hab2,hz,hzc⟩:=(Am.two HS.out HBL.out hb7 hm).int_ hlt
            have hzb:=HOK.out k hkl z (List.mem_of_getElem? hz)
            obtain ⟨a,rfl⟩:=Int.eq_ofNat_of_zero_le hzb.1
            have ha:a<bs.length:=by have:=hzb.2;omega
            have hai:(a:Int)<(bs.length:Int):=by omega
            have HZ:=Lib.hid (Mn (bs:=bs) (out:=outN) hz)
            clear hz hzb
            obtain ⟨b',off',kd,KA',args',cap',vn',ve',un',ue',hA',hbm',hbs',hx',g0,_,_,_,_,_,_,_⟩:=(HD.out.below hb7 hm).blk ha
            dsimp only at hA' hx'
            cases hA'
            have HDN:=Lib.hid (Gj (out:=outN) hx')
            dsimp only at HDN
            clear hx'
            cases hr:QL bs outN (Du bs k) t with
            | false =>
             have HRT:=Lib.hid hr
             clear hr
             go_wp2_with fail
             exact ⟨⟨t+1,by omega,by go_num,by rw [HZ.out,HRT.out];rfl,HO7.out,HB7.out,hb7⟩,by simp [intOf];omega⟩
            | true =>
             have HRT:=Lib.hid hr
             clear hr
             by_cases hd2:kd=2
             ·subst hd2
              go_wp2_with fail
              exact ⟨⟨t+1,by omega,by go_num,by rw [HZ.out,HRT.out,Int.toNat_natCast,HDN.out];rfl,HO7.out,HB7.out,hb7⟩,by simp [intOf];omega⟩
             ·have hdb:(kd == 2)=false:=by simpa using hd2
              have HDB:=Lib.hid hdb
              clear hd2
              go_wp2_with (go_at_call 170;refine (Om A (Cs outN) c _ (a:Int) _ HO7.out.cells hlo).mono ?_;rintro e w5 ⟨rfl,rfl⟩;rw [Ln])
              exact ⟨⟨t+1,by omega,by go_num,by rw [HZ.out,HRT.out,Int.toNat_natCast,HDN.out,HDB.out];simp,HO7.out,HB7.out,hb7⟩,by simp [intOf];omega⟩
           ·have hrd:rdy bs outN k=QL bs outN (Du bs k) t:=by
             rw [Io,Gj HX.out,HCT.out,Ou (by omega)]
             simp [HK2.out]
            cases hr:QL bs outN (Du bs k) t with
            | true =>
             have HNX:=Lib.hid (Aaf hkl HN.out (hrd.trans hr))
             clear hr hrd
             have hb7s:=hb7.size
             have h7:=HORD.out.lt HNX.out
             have hlt7:(Cs outN).length<1000000:=by rw [DU];omega
             go_wp2_with (at_builtin;refine Hl rfl _ _ rfl (w.heap.size+1) _ (Cs outN) (k:Int) wr.heap.size rfl (HO7.out.alloc _) rfl (by simp [go_sem]) hlt7 (by simp;omega) ?_;intro v' w4 hown hg hb4)
             have hst:Below (w.heap.size+1) wr w4:=((Below.refl _ wr).alloc (by omega) _).trans hb4
             refine ⟨⟨outN++[k],by rw [Oq];exact hown,HORD.out.push HNX.out,HB7.out.below hst (by omega),hb7.trans (hst.mono (by omega))⟩,?_⟩
             rw [hown.len]
             simp [lenOf,DU]
             omega
            | false =>
             have HRD:=Lib.hid (hrd.trans hr)
             clear hr hrd
             go_wp2_with fail
             exact ⟨⟨k+1,by omega,by go_num,rfl,HN.out.succ HRD.out,HO7.out,HB7.out,hb7⟩,by simp [intOf];omega⟩
     ·have hkn:k=bs.length:=by omega
      go_wp2_with fail
      subst hkn
      have HV:=HORD.out.done (YK HN.out)
      go_ret
      exact ⟨_,rfl,by rw [HV];exact HO.out.base_ (by omega),hb⟩
theorem Wf:(Tryz.prog.info? 4).map (fun i=>(i.zero,i.size,i.bytes))=some (some (.bool false),1,1):=by kernel_rfl
theorem Rj:Tryz.prog.underlying 104=some (.slice 4):=by kernel_rfl
def Fy (bs:List Bk):Int:=if (Dc bs).length=Dl bs then 0 else 24
def AbD (bs:List Bk):List Int:=if Fy bs=0 then Cs (Dc bs) else []
def OrdP (bs:List Bk) (w:World) (e:Ending) (w':World):Prop:=∃ v,e=.returned (.tuple #[v,GH (Fy bs)])∧Ej w' w.heap.size v (AbD bs)∧Below w.heap.size w w'
theorem Uf (n:Nat):(madeCells (Value.bool false).cells (n*1)).toList=FP (List.replicate n false):=by
 simp only [Value.cells,Nat.mul_one,FP,List.map_replicate]
 exact toList_madeCells_one _ _
theorem YL (w:World) (o:Obj):(w.alloc o).heap.size=w.heap.size+1:=by simp
theorem Ej.setLow {w:World} {base g:Nat} {v:Value} {xs:List Int} (h:Ej w base v xs) (hg:g<base) (j:Nat) (u:Value):Ej (w.setCell ⟨g,j,none⟩ u) base v xs:=by
 refine ⟨h.1,?_⟩
 rcases h.2 with hn|⟨g',cap,cur,he,hbg,hh,rest⟩
 ·exact .inl hn
 ·refine .inr ⟨g',cap,cur,he,hbg,?_,rest⟩
  rw [heap_setCell_other _ _ _ _ (by show g'≠g;omega)]
  exact hh
def FE (bs:List Bk) (k:Nat):List Bool:=(List.range bs.length).map fun j=>decide (j<k) && Ex bs j
def Ho (bs:List Bk) (out:List Nat):List Bool:=(List.range bs.length).map (Ei bs out)
theorem Qc (bs:List Bk) (k:Nat):(FE bs k).length=bs.length:=by simp [FE]
theorem Mo (bs:List Bk) (out:List Nat):(Ho bs out).length=bs.length:=by simp [Ho]
theorem Mp {bs:List Bk} {out:List Nat} {j:Nat} (h:j<bs.length):isM (Ho bs out) j=Ei bs out j:=by simp [isM,Ho,h]
theorem Ug (bs:List Bk):FE bs 0=List.replicate bs.length false:=by
 refine List.ext_getElem (by simp [FE]) fun i h1 h2=>?_
 simp [FE]
theorem Wg (bs:List Bk):FE bs bs.length=Ho bs []:=by
 refine List.ext_getElem (by simp [FE,Ho]) fun i h1 h2=>?_
 have:i<bs.length:=by rw [Qc] at h1;exact h1
 simp [FE,Ho,Ei,Ex,this]
theorem Wh {bs:List Bk} {k:Nat} (hd:Ex bs k=true):(FE bs k).set k true=FE bs (k+1):=by
 refine List.ext_getElem (by simp [FE]) fun i h1 h2=>?_
 rw [List.getElem_set]
 simp only [FE,List.getElem_map,List.getElem_range]
 by_cases h:k=i
 ·subst h;simp [hd]
 ·rw [if_neg h]
  congr 1
  exact decide_eq_decide.2 (by omega)
theorem YM {bs:List Bk} {k:Nat} (hd:Ex bs k=false):FE bs (k+1)=FE bs k:=by
 refine List.ext_getElem (by simp [FE]) fun i h1 h2=>?_
 simp only [FE,List.getElem_map,List.getElem_range]
 by_cases h:i=k
 ·subst h;simp [hd]
 ·congr 1
  exact decide_eq_decide.2 (by omega)
theorem Uh (bs:List Bk) (out:List Nat) (p:Nat):Ho bs (out++[p])=(Ho bs out).set p true:=by
 refine List.ext_getElem (by simp [Ho]) fun i h1 h2=>?_
 rw [List.getElem_set]
 simp only [Ho,List.getElem_map,List.getElem_range,Ei]
 by_cases h:p=i
 ·subst h;simp
 ·have h2:¬ i=p:=fun e=>h e.symm
  simp [h,h2]
def Mq (bs:List Bk) (i:Nat):Bool:=BU bs i != 2
theorem Ui (bs:List Bk):(fl (Mq bs) bs.length).length=Dl bs:=rfl
def Gs (bs:List Bk) (out:List Nat) (k:Nat):Int:=match (List.range k).find? (rdy bs out) with|none => -1|some p=>(p:Int)
theorem Wi {bs:List Bk} {out:List Nat} {k:Nat} (hp:Gs bs out k<0) (hr:rdy bs out k=true):Gs bs out (k+1)=(k:Int):=by
 unfold Gs at hp ⊢
 rw [List.range_succ,List.find?_append]
 cases h:(List.range k).find? (rdy bs out) with
 | none=>simp [hr]
 | some p=>rw [h] at hp;simp at hp;omega
theorem Ov {bs:List Bk} {out:List Nat} {k:Nat} (h:0≤Gs bs out k∨rdy bs out k=false):Gs bs out (k+1)=Gs bs out k:=by
 unfold Gs at h ⊢
 rw [List.range_succ,List.find?_append]
 cases hf:(List.range k).find? (rdy bs out) with
 | none =>
  rw [hf] at h
  rcases h with h|h
  ·simp at h
  ·simp [h]
 | some p=>simp
theorem Rk (bs:List Bk) (out:List Nat) (k:Nat) : -1≤Gs bs out k∧Gs bs out k<(k:Int):=by
 unfold Gs
 cases hf:(List.range k).find? (rdy bs out) with
 | none=>dsimp only;omega
 | some p =>
  have:=List.mem_of_find?_eq_some hf
  simp at this
  dsimp only
  omega
theorem Wj {bs:List Bk} {out:List Nat} (h:nxt bs out=none):Gs bs out bs.length = -1:=by unfold Gs;unfold nxt at h;rw [h]
theorem Wl {bs:List Bk} {out:List Nat} {p:Nat} (h:nxt bs out=some p):Gs bs out bs.length=(p:Int):=by unfold Gs;unfold nxt at h;rw [h]
theorem Wm {bs:List Bk} {out:List Nat} {k:Nat} (hd:Ei bs out k=false):rdy bs out k=(CU bs false k).all fun a=>Ei bs out a.toNat:=by
 rw [Io,hd]
 have hk:BU bs k≠2:=by
  unfold Ei at hd
  simp at hd
  exact hd.1
 unfold CU
 rw [if_neg (fun h=>hk h.1)]
 simp
def po1 (bs:List Bk) (w:World) (vs:List Value) (L i:Value) (wr:World):Prop :=
 ∃ k:Nat,k≤bs.length∧i=.int .i64 (k:Int)∧L=.int .i64 ((fl (Mq bs) k).length:Int)∧Bh wr (w.heap.size+1) (FP (FE bs k)) 4∧Bh wr w.heap.size vs 26∧Below w.heap.size w wr
def po2 (bs:List Bk) (w:World) (vs:List Value) (v L:Value) (wr:World):Prop :=
 ∃ (outN:List Nat) (l:Nat),L=.int .i64 (l:Int)∧l+outN.length=Dl bs∧GP bs outN∧Ej wr (w.heap.size+2) v (Cs outN)∧Bh wr (w.heap.size+1) (FP (Ho bs outN)) 4∧Bh wr w.heap.size vs 26∧Below w.heap.size w wr
def po3 (bs:List Bk) (outN:List Nat) (w:World) (vs:List Value) (v p i:Value) (wr:World):Prop :=
 ∃ k:Nat,k≤bs.length∧i=.int .i64 (k:Int)∧p=.int .i64 (Gs bs outN k)∧Ej wr (w.heap.size+2) v (Cs outN)∧Bh wr (w.heap.size+1) (FP (Ho bs outN)) 4∧Bh wr w.heap.size vs 26∧Below w.heap.size w wr
def po4F (w w5:World) (xs:List Int) (r i:Value) (wr:World):Prop:=∃ t:Nat,t≤xs.length∧i=.int .i64 (t:Int)∧r=.bool false∧wr=w5
def po4T (bs:List Bk) (outN:List Nat) (w w5:World) (xs:List Int) (r i:Value) (wr:World):Prop:=∃ t:Nat,t≤xs.length∧i=.int .i64 (t:Int)∧r=.bool (QL bs outN xs t)∧wr=w5
theorem Qd (d:Dg) (m:Nat) (w:World) (hm:m≤w.heap.size) (hd:Ta w m d) (hok:SQ d.bs) :
    Calls Tryz.prog 96 #[d.val] w (OrdP d.bs w):=by
  have h2:=hd.l2
  have HD:=Lib.hid hd
  have HOK:=Lib.hid hok
  clear hok hd
  obtain ⟨A1,ps,c1,A2,bs,c2,A3,os,c3⟩:=d
  dsimp only at h2 HOK
  simp only [Dg.val]
  have r0:=Bh.new_ w [.slice A1 ps.length c1,.slice A2 bs.length c2,.slice A3 os.length c3] 26
  have hnd:=Hk bs
  obtain ⟨i0,hi,hz0,hz1,hz2⟩:=info_parts Wf
  go_enter Tryz.func96,Tryz.ntmps96
  go_wp2_with (with_reducible refine wpList_make_full _ rfl (.tmp 16) (.tmp 16) 104 rfl (w.heap.size+1) 4 i0 (.bool false) 1 Rj hi hz0 hz1 .i64 .i64 bs.length bs.length bs.length rfl rfl rfl rfl (by rw [hz2];omega) (by unfold maxLen;omega) (by simp) ?_;intro w2 hown hg;have hst:Below (w.heap.size+1) (w.alloc (.cells #[.slice A1 ps.length c1,.slice A2 bs.length c2,.slice A3 os.length c3] 26)) w2:=(Below.refl _ _).grown hg (by simp) (fun k h=>by simp at h);obtain ⟨hc,hf,hs,hz'⟩:=EO (m:=w.heap.size+1) hst (by simp) (by simp))
  have hrow:=AbC hown
  rw [Uf,←Ug] at hrow
  simp only [YL] at hrow
  replace r0:=r0.below hst (by omega)
  have hb2:Below w.heap.size w w2:=(al_ _ _).trans (hst.mono (by omega))
  clear hown hc hf hs hz' hg hst
  go_loopw [6,21] (fun L i wr=>po1 bs w [.slice A1 ps.length c1,.slice A2 bs.length c2,.slice A3 os.length c3] L i wr) (fun _ i _=>bs.length - (intOf i).toNat)
  case atStart=>exact ⟨0,Nat.zero_le _,rfl,rfl,hrow,r0,hb2⟩
  case round =>
    as_aux_lemma =>
      clear hrow r0 hb2
      obtain ⟨k,hk,rfl,rfl,hrow,hbox,hb⟩:=hrel
      have HR:=Lib.hid hrow
      have HB:=Lib.hid hbox
      have f0:=hrow.free
      have z1:=hrow.lt
      have z0:=hbox.lt
      clear hrow hbox
      by_cases hkl:k<bs.length
      · obtain ⟨b,off,kind,KA,args,cap,vn,ve,un,ue,hA,hbm,hbs,hx,g0,g1,g2,g3,g4,g5,ha,hl⟩:=(HD.out.below hb hm).blk hkl
        dsimp only at hA hx
        subst hA
        have HX:=Lib.hid (Il hx)
        dsimp only at HX
        have fc:wr.cell? ⟨w.heap.size+1,k,none⟩=some (.bool (isM (FE bs k) k)):=by
          rw [HR.out.cell,Hn (by rw [Qc];exact hkl)]
        have hki:(k:Int)<(bs.length:Int):=by omega
        have hfl:=AbB (Mq bs) k
        clear hx ha hl
        by_cases hk2:kind=2
        · subst hk2
          have HT:Hid (Ex bs k=true):=by unfold Ex;rw [HX.out];exact Lib.hid rfl
          have HT2:Hid (Mq bs k=false):=by unfold Mq;rw [HX.out];exact Lib.hid rfl
          go_wp2_with fail
          exact ⟨⟨k+1,by omega,by go_num,by rw [AbA HT2.out],by rw [←Wh HT.out,Qb];exact (HR.out.set_ k (.bool true)).call (al_ _ _),(HB.out.other_ (by omega) k (.bool true)).call (al_ _ _),Aq (UV hb (by simp) _) _⟩,by simp [intOf];omega⟩
        · have hkb:(kind == 2)=false:=by simpa using hk2
          have HT:Hid (Ex bs k=false):=by unfold Ex;rw [HX.out];exact Lib.hid hkb
          have HT2:Hid (Mq bs k=true):=by unfold Mq;rw [HX.out];exact Lib.hid (by simpa using hk2)
          clear hk2
          go_wp2_with fail
          exact ⟨⟨k+1,by omega,by go_num,by rw [Wc HT2.out,List.length_append];go_num,by rw [YM HT.out];exact HR.out.call (al_ _ _),HB.out.call (al_ _ _),Aq hb _⟩,by simp [intOf];omega⟩
      · have hkn:k=bs.length:=by omega
        subst hkn
        clear hk hkl f0
        rw [Ui]
        rw [Wg] at HR
        go_wp2_with fail
        obtain ⟨w3,hw3⟩:∃ w3,w3=wr:=⟨_,rfl⟩
        rw [←hw3] at HR HB hb
        rw [←hw3]
        clear hw3 z0 z1
        go_loopw [4,6] (fun v L wr=>po2 bs w [.slice A1 ps.length c1,.slice A2 bs.length c2,.slice A3 os.length c3] v L wr) (fun _ L _=>(intOf L).toNat)
        case atStart=>exact ⟨[],Dl bs,rfl,rfl,GP.nil _,Ej.nil_ _ _,HR.out,HB.out,hb⟩
        case round =>
          as_aux_lemma =>
            clear HR HB hb
            obtain ⟨outN,l,rfl,hlen,hord,hown,hrow,hbox,hb⟩:=hrel
            have HLN:=Lib.hid hlen
            have hl1:(l:Int)≤1000000:=by omega
            obtain ⟨A,c,rfl,hAc,_⟩:=hown.view
            have HO:=Lib.hid hown
            have HR:=Lib.hid hrow
            have HB:=Lib.hid hbox
            have HORD:=Lib.hid hord
            have b1:wr.cell? ⟨w.heap.size,1,none⟩=some (.slice A2 bs.length c2):=hbox.cell 1
            have z1:=hrow.lt
            have z0:=hbox.lt
            clear hown hrow hbox hord hlen hAc
            by_cases hl0:l=0
            · have hfull:=HORD.out.full (by have:=HLN.out;omega)
              have HF:=Lib.hid hfull
              subst hl0
              clear hfull
              go_wp2_with fail
              have he:Fy bs=0:=by unfold Fy;rw [HF.out,if_pos (by have:=HLN.out;omega)]
              have hv:AbD bs=Cs outN:=by unfold AbD;rw [if_pos he,HF.out]
              refine bodyPost_ret (v:=.tuple #[.slice A (Cs outN).length c,.nilIface]) (by simp [results,Tryz.results96,go_sem]) rfl ⟨_,by rw [he];rfl,by rw [hv];exact HO.out.base_ (by omega),hb⟩
            · obtain ⟨l',rfl⟩:∃ l',l=l'+1:=⟨l - 1,by omega⟩
              have hl2:(l':Int)≤999999:=by omega
              clear hl0 hl1
              have hl3:(0:Int)<((l'+1:Nat):Int):=by omega
              go_wp2_with fail
              clear b1 z0 z1 hl3
              obtain ⟨w4,hw4⟩:∃ w4,w4=wr:=⟨_,rfl⟩
              rw [←hw4] at HO HR HB hb
              rw [←hw4]
              clear hw4
              go_loopw [9,42] (fun p i wr=>po3 bs outN w [.slice A1 ps.length c1,.slice A2 bs.length c2,.slice A3 os.length c3] (.slice A (Cs outN).length c) p i wr) (fun _ i _=>bs.length - (intOf i).toNat)
              case atStart=>exact ⟨0,Nat.zero_le _,rfl,rfl,HO.out,HR.out,HB.out,hb⟩
              case round =>
                as_aux_lemma =>
                  clear HR HB hb HO
                  obtain ⟨k,hk,rfl,hp,hown,hrow,hbox,hb⟩:=hrel
                  have HO:=Lib.hid hown
                  have HR:=Lib.hid hrow
                  have HB:=Lib.hid hbox
                  have b0:wr.cell? ⟨w.heap.size,0,none⟩=some (.slice A1 ps.length c1):=hbox.cell 0
                  have b1:wr.cell? ⟨w.heap.size,1,none⟩=some (.slice A2 bs.length c2):=hbox.cell 1
                  have b2:wr.cell? ⟨w.heap.size,2,none⟩=some (.slice A3 os.length c3):=hbox.cell 2
                  have f0:=hrow.free
                  have z1:=hrow.lt
                  have z0:=hbox.lt
                  clear hown hrow hbox
                  by_cases hkl:k<bs.length
                  · subst hp
                    have fc:wr.cell? ⟨w.heap.size+1,k,none⟩=some (.bool (Ei bs outN k)):=by
                      rw [HR.out.cell,Hn (by rw [Mo];exact hkl),Mp hkl]
                    have hki:(k:Int)<(bs.length:Int):=by omega
                    have hpr:=Rk bs outN k
                    obtain ⟨P,hP⟩:∃ P,P=Gs bs outN k:=⟨_,rfl⟩
                    rw [←hP] at hpr
                    rw [←hP]
                    have HP:=Lib.hid hP
                    clear hP
                    have hls:(CU bs false k).length≤1000000:=by
                      obtain ⟨_,_,_,_,_,_,_,_,_,_,_,_,_,hx,_,_,_,_,_,_,_,hl⟩:=HD.out.blk hkl
                      exact Wd hx hl
                    have HLS:=Lib.hid hls
                    clear hls
                    cases hdn:Ei bs outN k with
                    | true =>
                      rw [hdn] at fc
                      have HNO:=Lib.hid (Ov (bs:=bs) (out:=outN) (k:=k) (.inr (by rw [Io,hdn];rfl)))
                      clear hdn
                      go_wp2_with fail
                      go_at_call 129
                      refine (Im ⟨A1,ps,c1,A2,bs,c2,A3,os,c3⟩ k m wr (by have:=hb.size;omega) (HD.out.below hb hm) hkl).mono ?_
                      rintro e w5 ⟨X,cx,rfl,hcx,hb5⟩
                      dsimp only at hcx ⊢
                      have hln:(CU bs false k).length≤1000000:=HLS.out
                      have O5:=Lib.hid (HO.out.call hb5)
                      have R5:=Lib.hid (HR.out.call hb5)
                      have B5:=Lib.hid (HB.out.call hb5)
                      have N5:=Lib.hid (hb.trans (hb5.mono hb.size))
                      have HCX:=Lib.hid hcx
                      clear hb5 hb b0 b1 b2 f0 fc z0 z1 hcx
                      go_wp2_with fail
                      go_loopw [11,58] (fun r i wr=>po4F w w5 (CU bs false k) r i wr) (fun _ i _=>(CU bs false k).length - (intOf i).toNat)
                      case atStart=>exact ⟨0,Nat.zero_le _,rfl,rfl,rfl⟩
                      case round =>
                        as_aux_lemma =>
                          obtain ⟨t,ht,rfl,rfl,rfl⟩:=hrel
                          by_cases hlt:t<(CU bs false k).length
                          · obtain ⟨ab,ao,z,rfl,hab,hab2,hz,hzc⟩:=HCX.out.int_ hlt
                            clear hz
                            go_wp2_with fail
                            exact ⟨⟨t+1,by omega,by go_num,rfl,rfl⟩,by simp [intOf];omega⟩
                          · go_wp2_with fail
                            first
                              | exact ⟨⟨k+1,by omega,by go_num,by rw [HNO.out,HP.out],O5.out,R5.out,B5.out,N5.out⟩,by simp [intOf];omega⟩
                              | (refine ⟨?_,by simp [intOf];omega⟩
                                 repeat apply Exists.intro
                                 exact ⟨⟨k+1,by omega,by go_num,by rw [HNO.out,HP.out],O5.out,R5.out,B5.out,N5.out⟩,rfl⟩)
                    | false =>
                      rw [hdn] at fc
                      by_cases hpn:P<0
                      · have HRD:=Lib.hid (Wm hdn)
                        clear hdn
                        go_wp2_with fail
                        go_at_call 129
                        refine (Im ⟨A1,ps,c1,A2,bs,c2,A3,os,c3⟩ k m wr (by have:=hb.size;omega) (HD.out.below hb hm) hkl).mono ?_
                        rintro e w5 ⟨X,cx,rfl,hcx,hb5⟩
                        dsimp only at hcx ⊢
                        have hln:(CU bs false k).length≤1000000:=HLS.out
                        have O5:=Lib.hid (HO.out.call hb5)
                        have R5:=Lib.hid (HR.out.call hb5)
                        have B5:=Lib.hid (HB.out.call hb5)
                        have N5:=Lib.hid (hb.trans (hb5.mono hb.size))
                        have HCX:=Lib.hid hcx
                        clear hb5 hb b0 b1 b2 f0 fc z0 z1 hcx
                        go_wp2_with fail
                        go_loopw [11,58] (fun r i wr=>po4T bs outN w w5 (CU bs false k) r i wr) (fun _ i _=>(CU bs false k).length - (intOf i).toNat)
                        case atStart=>exact ⟨0,Nat.zero_le _,rfl,rfl,rfl⟩
                        case round =>
                          as_aux_lemma =>
                            obtain ⟨t,ht,rfl,rfl,rfl⟩:=hrel
                            by_cases hlt:t<(CU bs false k).length
                            · obtain ⟨ab,ao,z,rfl,hab,hab2,hz,hzc⟩:=HCX.out.int_ hlt
                              have hzb:=HOK.out k hkl z (Rg (List.mem_of_getElem? hz))
                              obtain ⟨a,rfl⟩:=Int.eq_ofNat_of_zero_le hzb.1
                              have ha:a<bs.length:=by have:=hzb.2;omega
                              have hai:(a:Int)<(bs.length:Int):=by omega
                              have HZ:=Lib.hid (Mn (bs:=bs) (out:=outN) hz)
                              clear hz hzb
                              have fd:wr.cell? ⟨w.heap.size+1,a,none⟩=some (.bool (Ei bs outN a)):=by
                                rw [R5.out.cell,Hn (by rw [Mo];exact ha),Mp ha]
                              have z1:=R5.out.lt
                              cases hr:QL bs outN (CU bs false k) t with
                              | false =>
                                have HRT:=Lib.hid hr
                                clear hr
                                go_wp2_with fail
                                exact ⟨⟨t+1,by omega,by go_num,by rw [HZ.out,HRT.out];rfl,rfl⟩,by simp [intOf];omega⟩
                              | true =>
                                have HRT:=Lib.hid hr
                                clear hr
                                go_wp2_with fail
                                exact ⟨⟨t+1,by omega,by go_num,by rw [HZ.out,HRT.out,Int.toNat_natCast];rfl,rfl⟩,by simp [intOf];omega⟩
                            · have hrd:rdy bs outN k=QL bs outN (CU bs false k) t:=by
                                rw [HRD.out,Ou (by omega)]
                              cases hr:QL bs outN (CU bs false k) t with
                              | true =>
                                have HNX:=Lib.hid (Wi (by rw [←HP.out];exact hpn) (hrd.trans hr))
                                clear hr hrd
                                go_wp2_with fail
                                exact ⟨⟨k+1,by omega,by go_num,by rw [HNX.out],O5.out,R5.out,B5.out,N5.out⟩,by simp [intOf];omega⟩
                              | false =>
                                have HNO:=Lib.hid (Ov (.inr (hrd.trans hr)))
                                clear hr hrd
                                go_wp2_with fail
                                exact ⟨⟨k+1,by omega,by go_num,by rw [HNO.out,HP.out],O5.out,R5.out,B5.out,N5.out⟩,by simp [intOf];omega⟩
                      · have HNO:=Lib.hid (Ov (bs:=bs) (out:=outN) (k:=k) (.inl (by rw [←HP.out];omega)))
                        clear hdn
                        go_wp2_with fail
                        go_at_call 129
                        refine (Im ⟨A1,ps,c1,A2,bs,c2,A3,os,c3⟩ k m wr (by have:=hb.size;omega) (HD.out.below hb hm) hkl).mono ?_
                        rintro e w5 ⟨X,cx,rfl,hcx,hb5⟩
                        dsimp only at hcx ⊢
                        have hln:(CU bs false k).length≤1000000:=HLS.out
                        have O5:=Lib.hid (HO.out.call hb5)
                        have R5:=Lib.hid (HR.out.call hb5)
                        have B5:=Lib.hid (HB.out.call hb5)
                        have N5:=Lib.hid (hb.trans (hb5.mono hb.size))
                        have HCX:=Lib.hid hcx
                        clear hb5 hb b0 b1 b2 f0 fc z0 z1 hcx
                        go_wp2_with fail
                        go_loopw [11,58] (fun r i wr=>po4F w w5 (CU bs false k) r i wr) (fun _ i _=>(CU bs false k).length - (intOf i).toNat)
                        case atStart=>exact ⟨0,Nat.zero_le _,rfl,rfl,rfl⟩
                        case round =>
                          as_aux_lemma =>
                            obtain ⟨t,ht,rfl,rfl,rfl⟩:=hrel
                            by_cases hlt:t<(CU bs false k).length
                            · obtain ⟨ab,ao,z,rfl,hab,hab2,hz,hzc⟩:=HCX.out.int_ hlt
                              clear hz
                              go_wp2_with fail
                              exact ⟨⟨t+1,by omega,by go_num,rfl,rfl⟩,by simp [intOf];omega⟩
                            · go_wp2_with fail
                              first
                                | exact ⟨⟨k+1,by omega,by go_num,by rw [HNO.out,HP.out],O5.out,R5.out,B5.out,N5.out⟩,by simp [intOf];omega⟩
                                | (refine ⟨?_,by simp [intOf];omega⟩
                                   repeat apply Exists.intro
                                   exact ⟨⟨k+1,by omega,by go_num,by rw [HNO.out,HP.out],O5.out,R5.out,B5.out,N5.out⟩,rfl⟩)
                  · have hkn:k=bs.length:=by omega
                    subst hkn
                    clear hk hkl
                    cases hn:nxt bs outN with
                    | none =>
                      rw [Wj hn] at hp
                      subst hp
                      have HF:=Lib.hid (HORD.out.done hn)
                      clear hn
                      go_wp2_with fail
                      have he:Fy bs=24:=by unfold Fy;rw [HF.out,if_neg (by have:=HLN.out;omega)]
                      have hv:AbD bs=[]:=by unfold AbD;rw [he];rfl
                      refine bodyPost_ret (v:=.tuple #[.slice none 0 0,.iface 109 (.int .i64 24)]) (by simp [results,Tryz.results96,go_sem]) rfl ⟨_,by rw [he];rfl,by rw [hv];exact Ej.nil_ _ _,hb⟩
                    | some q =>
                      rw [Wl hn] at hp
                      subst hp
                      have hq:=(SO hn).1
                      have hqi:(q:Int)<(bs.length:Int):=by omega
                      have hlo:=HORD.out.lt hn
                      have HN:=Lib.hid hn
                      clear hn
                      have fc:wr.cell? ⟨w.heap.size+1,q,none⟩=some (.bool (Ei bs outN q)):=by
                        rw [HR.out.cell,Hn (by rw [Mo];exact hq),Mp hq]
                      have hlt7:(Cs outN).length<1000000:=by rw [DU];omega
                      have hbz:=hb.size
                      go_wp2_with (at_builtin;refine Hl rfl _ _ rfl (w.heap.size+2) _ (Cs outN) (q:Int) wr.heap.size rfl ((HO.out.setLow (by omega) q (.bool true)).alloc _) rfl (by simp [go_sem]) hlt7 (by simp;omega) ?_;intro v' w6 hown hg hb6)
                      have hst:Below (w.heap.size+2) ((wr.setCell ⟨w.heap.size+1,q,none⟩ (.bool true))) w6:=((Below.refl _ _).alloc (by simp;omega) _).trans hb6
                      have e1:l'+(outN++[q]).length=Dl bs:=by have:=HLN.out;simp;omega
                      have e2:Bh w6 (w.heap.size+1) (FP (Ho bs (outN++[q]))) 4:=by rw [Uh,Qb];exact (HR.out.set_ q (.bool true)).below hst (by omega)
                      have e3:=(HB.out.other_ (k:=w.heap.size+1) (by omega) q (.bool true)).below hst (by omega)
                      have e4:Below w.heap.size w w6:=(UV hb (p:=⟨w.heap.size+1,q,none⟩) (by simp) (.bool true)).trans (hst.mono (by omega))
                      have e5:Ej w6 (w.heap.size+2) v' (Cs (outN++[q])):=by rw [Oq];exact hown
                      refine ⟨⟨outN++[q],l',?_,e1,HORD.out.push HN.out,e5,e2,e3,e4⟩,?_⟩
                      · go_num
                      · first | (simp [intOf]; done) | (simp [intOf]; omega)
def Lo (n:Nat) (a:Int):Int:=if 0≤a∧a<(n:Int) then 0 else 10
def EJ (k:Int):Bool:=k == 11
def La (k:Int):Bool:=k == 11 || k == 1 || k == 2 || k == 6
def Dv (np nb:Nat) (k:Int):Nat:=if k=0 then np else nb
def BC (np nb:Nat) (b:Bk):Int :=
 if AU b.kind<0 then 7 else if ¬ ((b.args.length:Nat):Int)=AU b.kind then 11 else if ¬ AH (b.args.map (Lo (Dv np nb b.kind)))=0 then 10
 else if ¬ BF b.vn b.ve (La b.kind)=0 then BF b.vn b.ve (La b.kind) else if ¬ BF b.un b.ue (EJ b.kind)=0 then BF b.un b.ue (EJ b.kind)
 else if EJ b.kind=true∧0<Ml b.vn b.ve b.un b.ue then 26 else 0
section
variable {np nb:Nat} {b:Bk}
theorem be1 (h:AU b.kind<0):BC np nb b=7:=if_pos h
theorem be2 (h:¬ AU b.kind<0) (h2:¬ ((b.args.length:Nat):Int)=AU b.kind):BC np nb b=11:=by unfold BC;rw [if_neg h,if_pos h2]
theorem be3 (h:¬ AU b.kind<0) (h2:((b.args.length:Nat):Int)=AU b.kind) {M:Nat} (hM:Dv np nb b.kind=M) (h3:¬ AH (b.args.map (Lo M))=0):BC np nb b=10:=by
 subst hM;unfold BC;rw [if_neg h,if_neg (not_not_intro h2),if_pos h3]
theorem be4 (h:¬ AU b.kind<0) (h2:((b.args.length:Nat):Int)=AU b.kind) {M:Nat} (hM:Dv np nb b.kind=M) (h3:AH (b.args.map (Lo M))=0) {vu:Bool} (hv:La b.kind=vu) (h4:¬ BF b.vn b.ve vu=0):BC np nb b=BF b.vn b.ve vu:=by
 subst hM hv;unfold BC;rw [if_neg h,if_neg (not_not_intro h2),if_neg (not_not_intro h3),if_pos h4]
theorem be5 (h:¬ AU b.kind<0) (h2:((b.args.length:Nat):Int)=AU b.kind) {M:Nat} (hM:Dv np nb b.kind=M) (h3:AH (b.args.map (Lo M))=0) {vu cu:Bool} (hv:La b.kind=vu) (h4:BF b.vn b.ve vu=0) (hc:EJ b.kind=cu)
  (h5:¬ BF b.un b.ue cu=0):BC np nb b=BF b.un b.ue cu:=by
 subst hM hv hc;unfold BC;rw [if_neg h,if_neg (not_not_intro h2),if_neg (not_not_intro h3),if_neg (not_not_intro h4),if_pos h5]
theorem be6 (h:¬ AU b.kind<0) (h2:((b.args.length:Nat):Int)=AU b.kind) {M:Nat} (hM:Dv np nb b.kind=M) (h3:AH (b.args.map (Lo M))=0) {vu cu:Bool} (hv:La b.kind=vu) (h4:BF b.vn b.ve vu=0) (hc:EJ b.kind=cu)
  (h5:BF b.un b.ue cu=0) (h6:cu=true∧0<Ml b.vn b.ve b.un b.ue):BC np nb b=26:=by
 subst hM hv hc;unfold BC;rw [if_neg h,if_neg (not_not_intro h2),if_neg (not_not_intro h3),if_neg (not_not_intro h4),if_neg (not_not_intro h5),if_pos h6]
theorem be7 (h:¬ AU b.kind<0) (h2:((b.args.length:Nat):Int)=AU b.kind) {M:Nat} (hM:Dv np nb b.kind=M) (h3:AH (b.args.map (Lo M))=0) {vu cu:Bool} (hv:La b.kind=vu) (h4:BF b.vn b.ve vu=0) (hc:EJ b.kind=cu)
  (h5:BF b.un b.ue cu=0) (h6:¬ (cu=true∧0<Ml b.vn b.ve b.un b.ue)):BC np nb b=0:=by
 subst hM hv hc;unfold BC;rw [if_neg h,if_neg (not_not_intro h2),if_neg (not_not_intro h3),if_neg (not_not_intro h4),if_neg (not_not_intro h5),if_neg h6]
end
theorem Mr {n e:Int} (h:BF n e true=0):EW n e:=by
 unfold BF at h
 rw [if_pos rfl] at h
 by_cases hs:EW n e
 ·exact hs
 ·rw [if_neg hs] at h;cases h
theorem CN {args:List Int} {M t:Nat} {z:Int} (hz:args[t]?=some z) (hb:¬ (0≤z∧z<(M:Int))) (hf:AH ((args.map (Lo M)).take t)=0):¬ AH (args.map (Lo M))=0:=by
 rw [UX (k:=t) (e:=10) (by rw [List.getElem?_map,hz];exact congrArg some (if_neg hb)) (by decide) hf]
 decide
theorem Dh {args:List Int} {M t:Nat} {z:Int} (hz:args[t]?=some z) (hb:0≤z∧z<(M:Int)) (hf:AH ((args.map (Lo M)).take t)=0):AH ((args.map (Lo M)).take (t+1))=0 :=
 UW (by rw [List.getElem?_map,hz];exact congrArg some (if_pos hb)) hf
structure KP (W:World) (m:Nat) (w:World):Prop where
 is:Below m W w
 fits:m≤w.heap.size
theorem KP.drew {W w:World} {m:Nat} (h:KP W m w):KP W m w.drew:=⟨h.is.drew,h.fits⟩
theorem KP.call {W w w':World} {m:Nat} (h:KP W m w) (hb:Below w.heap.size w w'):KP W m w':=⟨h.is.trans (hb.mono h.fits),Nat.le_trans h.fits hb.size⟩
theorem KP.all {W w:World} {m:Nat} (h:KP W m w):(∀ b o,b<m→w.cell? ⟨b,o,none⟩=W.cell? ⟨b,o,none⟩)∧KP W m w:=⟨fun _ _ hb=>h.is.cell hb,h⟩
def Fz (args:List Int) (M:Nat) (W:World) (i:Value) (wr:World):Prop:=∃ t:Nat,t≤args.length∧i=.int .i64 (t:Int)∧AH ((args.map (Lo M)).take t)=0∧wr=W
end Go.Proofs.YtmdfjbpggbhgnaaGreatDoor
namespace Go.Proofs.YtmdfjbpggbhgnaaGreatDoor
open Go.RowKit
def DR (p:Prt):Int:=if -2147483648≤p.lo∧p.lo≤p.hi∧p.hi<2147483648∧0≤p.fr∧p.fr≤30 then 0 else 3
def Ey (ps:List Prt) (bs:List Bk) (os:List Int):Prop:=ps.length≤16∧bs.length≤64∧os.length≤16
def DJ (ps:List Prt) (bs:List Bk) (os:List Int):Int:=AH (ps.map DR++(bs.map (BC ps.length bs.length)++os.map (Lo bs.length)))
instance (ps:List Prt) (bs:List Bk) (os:List Int):Decidable (Ey ps bs os):=by unfold Ey;infer_instance
def BN (ps:List Prt) (bs:List Bk) (os:List Int):Int:=if ¬ Ey ps bs os then 4 else if ¬ DJ ps bs os=0 then DJ ps bs os else Fy bs
theorem CX {l:List Int} (h:AH l=0):∀ x∈l,x=0:=by
 induction l with
 | nil=>simp
 | cons y l ih =>
  unfold AH at h
  by_cases hy:y=0
  ·rw [if_pos hy] at h
   intro x hx
   rcases List.mem_cons.1 hx with rfl|hx
   ·exact hy
   ·exact ih h x hx
  ·rw [if_neg hy] at h
   exact absurd h hy
theorem Td {np nb:Nat} {b:Bk} (h:BC np nb b=0):0≤AU b.kind∧((b.args.length:Nat):Int)=AU b.kind∧∀ a∈b.args,0≤a∧a<(Dv np nb b.kind:Int):=by
 unfold BC at h
 by_cases h1:AU b.kind<0
 ·rw [if_pos h1] at h;cases h
 ·rw [if_neg h1] at h
  by_cases h2:¬ ((b.args.length:Nat):Int)=AU b.kind
  ·rw [if_pos h2] at h;cases h
  ·rw [if_neg h2] at h
   by_cases h3:¬ AH (b.args.map (Lo (Dv np nb b.kind)))=0
   ·rw [if_pos h3] at h;cases h
   ·refine ⟨by omega,Decidable.of_not_not h2,fun a ha=>?_⟩
    have:=CX (Decidable.of_not_not h3) (Lo (Dv np nb b.kind) a) (List.mem_map_of_mem ha)
    unfold Lo at this
    by_cases h4:0≤a∧a<(Dv np nb b.kind:Int)
    ·exact h4
    ·rw [if_neg h4] at this;cases this
theorem Rl {np:Nat} {bs:List Bk} (h:AH (bs.map (BC np bs.length))=0):SQ bs:=by
 intro i hi a ha
 have hx:=List.getElem?_eq_getElem hi
 rw [Hm hx] at ha
 by_cases hk:bs[i].kind=0
 ·rw [if_pos hk] at ha;cases ha
 ·rw [if_neg hk] at ha
  have h0:=CX h (BC np bs.length bs[i]) (List.mem_map_of_mem (List.getElem_mem hi))
  have:=(Td h0).2.2 a ha
  unfold Dv at this
  rw [if_neg hk] at this
  exact this
section
variable {ps:List Prt} {bs:List Bk} {os:List Int}
theorem de0 (h:¬ Ey ps bs os):BN ps bs os=4:=if_pos h
theorem de1 (h:Ey ps bs os) {e:Int} (h2:DJ ps bs os=e) (h3:¬ e=0):BN ps bs os=e:=by subst h2;unfold BN;rw [if_neg (not_not_intro h),if_pos h3]
theorem de2 (h:Ey ps bs os) (h2:DJ ps bs os=0):BN ps bs os=Fy bs:=by unfold BN;rw [if_neg (not_not_intro h),if_neg (not_not_intro h2)]
theorem pe1 {k:Nat} {p:Prt} {e:Int} (hp:ps[k]?=some p) (he:DR p=e) (h0:¬ e=0) (hf:AH ((ps.map DR).take k)=0):DJ ps bs os=e :=
 ZO (pre:=[]) (k:=k) rfl (by rw [List.getElem?_map,hp];exact congrArg some he) h0 hf
theorem pe2 {k:Nat} {b:Bk} {e:Int} (h1:AH (ps.map DR)=0) (hp:bs[k]?=some b) (he:BC ps.length bs.length b=e) (h0:¬ e=0) (hf:AH ((bs.map (BC ps.length bs.length)).take k)=0):DJ ps bs os=e :=
 ZO h1 (k:=k) (by rw [List.getElem?_map,hp];exact congrArg some he) h0 hf
theorem pe3 {k:Nat} {o:Int} {e:Int} (h1:AH (ps.map DR)=0) (h2:AH (bs.map (BC ps.length bs.length))=0) (hp:os[k]?=some o) (he:Lo bs.length o=e) (h0:¬ e=0) (hf:AH ((os.map (Lo bs.length)).take k)=0):DJ ps bs os=e:=by
 unfold DJ
 rw [Bx,if_pos h1,Bx,if_pos h2]
 exact UX (k:=k) (by rw [List.getElem?_map,hp];exact congrArg some he) h0 hf
theorem pe4 (h1:AH (ps.map DR)=0) (h2:AH (bs.map (BC ps.length bs.length))=0) (h3:AH (os.map (Lo bs.length))=0):DJ ps bs os=0:=by
 unfold DJ
 rw [Bx,if_pos h1,Bx,if_pos h2,h3]
theorem fs1 {α:Type} {l:List α} {f:α→Int} {k:Nat} {x:α} (hx:l[k]?=some x) (he:f x=0) (hf:AH ((l.map f).take k)=0):AH ((l.map f).take (k+1))=0:=UW (by rw [List.getElem?_map,hx];exact congrArg some he) hf
end
def Uj (w:World) (vs:List Value) (es:List Int) (i:Value) (wr:World):Prop :=
 ∃ k:Nat,k≤es.length∧i=.int .i64 (k:Int)∧AH (es.take k)=0∧Bh wr w.heap.size vs 26∧Below w.heap.size w wr
end Go.Proofs.YtmdfjbpggbhgnaaGreatDoor
