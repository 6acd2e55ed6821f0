/- What the proofs of this claim share, part 10. No conditions. -/
import Derived.Test.YtjlkgfeepocjfaaGreatDoorMk9
import Derived.Test.YtjlkgfeepocjfaaGreatDoorMk6
import Derived.Test.YtjlkgfeepocjfaaGreatDoorMk3
import Derived.Defers
import Derived.Recover
import Derived.Deep.RegionHeld3
import Derived.Test.YtjlkgfeepocjfaaGreatDoorRows
import Derived.Laws.AppendOwnNone
import Derived.Laws.OwnMore
set_option maxRecDepth 100000
set_option maxHeartbeats 4000000
set_option linter.all false
open Go.Proofs.Tryz
namespace Go.Proofs.YtjlkgfeepocjfaaGreatDoor
open Go.RowKit
variable {E E' a e n y z:Int} {v:Value} {w:World} {out:List Nat} {fuel i:Nat} {p:Nat→Bool} {t t':TypeId} {os xs:List Int} {ps:List Prt} {S:EN} {vs:List Value} {b:Bool}
section
variable {P:Program} {G:World→Prop} {N:Nat}
end
section
variable {P:Program} {G:World→Prop} {o:Oper} {F:Frm} {H:List Ob}
theorem TX {id:Nat} {ty:TypeId} {ds:List D} (hH:H[id]?=some (.box ty (ds.map C.d))):LW true H (.one (.ref id 0 none)) (.one (.ptr true ds)) :=
 .one (.ref rfl hH (by simp) fun j c d hc hd=>by
  simp only [gq,ag,hd,dc,Option.some.injEq] at hc
  subst hc
  exact .d fun h=>by cases h)
theorem xMf (rs:List (Nat × Nat × Option Nat)) {fn:Fn} {caps:Array Operand} (ho:o.op=.makeFunc fn #[] caps:=by with_unfolding_all exact rfl) (hc:caps.toList.map F.ev=rs.map (fun p=>X.one (.ref p.1 p.2.1 p.2.2)):=by with_unfolding_all exact rfl):AZ P G o F H (.one (.clo fn rs)) [] :=
 Dm ho ⟨by have:=congrArg List.length hc;simpa using this,fun j x p hx hp=>by
  have h1:=congrArg (fun l=>l[j]?) hc
  simp only [ag,hx,hp,dc,Option.some.injEq] at h1
  exact h1⟩
theorem xCc {f : FuncId} {fn : Func} {cd : Code} {r : Operand} {xs : Array Operand} {ts : Array TypeId} {rs : List (Nat × Nat × Option Nat)} {l args cargs res : List A} {x : X} (h1 : P.funcs[f]? = some fn) (h : CV P G f l res) (hl : l = args ++ cargs) (h2 : (fn.name == "runtime.NumGoroutine") = false := by kernel_rfl) (h3 : fn.body = some cd := by with_unfolding_all exact rfl)
  (ho:o.op=.call { callee:=.value r,args:=xs,argTypes:=ts }:=by with_unfolding_all exact rfl) (hr:F.ev r=.one (.clo (.func f) rs):=by with_unfolding_all exact rfl)
  (ha:Ba (fun x y=>LW true H (F.ev x) y) xs.toList args:=by with_unfolding_all first|((repeat' first|exact Br rfl rfl|refine AO rfl rfl ?_ ?_|refine Dn rfl rfl ?_|refine Cf rfl rfl ?_|exact Bi rfl (fun h=>by cases h)|exact GL rfl rfl|exact cexp_e rfl rfl|refine Dc rfl rfl rfl ?_) <;> fail)|fail)
  (hcl:Ba (fun (p:Nat × Nat × Option Nat) y=>LW true H (.one (.ref p.1 p.2.1 p.2.2)) y) rs cargs:=by with_unfolding_all first|((repeat' first|exact Br rfl rfl|refine AO rfl rfl ?_ ?_|exact TX rfl) <;> fail)|fail)
  (hx:Akq res=x:=by with_unfolding_all exact rfl):AZ P G o F H x []:=hx ▸ Zp ho hr h1 h2 h3 (hl ▸ h) ha hcl
end
def Aat (x:Int) (dx:Nat) (y:Int) (dy:Nat):Int:=sgI (x*2 ^ (max dx dy - dx) - y*2 ^ (max dx dy - dy))
theorem Gx (x:Int) (k:Nat):sgI (x*2 ^ k)=sgI x:=by
 have hp:(0:Int)<2 ^ k:=ga (by decide)
 unfold sgI
 by_cases h:x=0
 ·subst h;simp
 ·have h1:¬ x*2 ^ k=0:=by
   intro h0
   rcases Int.mul_eq_zero.1 h0 with h2|h2
   ·exact h h2
   ·omega
  rw [if_neg h,if_neg h1]
  by_cases h2:x<0
  ·rw [if_pos h2,if_pos (kz h2 hp)]
  ·have:=ia (show 0≤x by omega) (bg hp)
   rw [if_neg h2,if_neg (by omega)]
theorem Ahy {x:Int} (h:sgI x<sgI y):sgI (x - y) = -1:=by
 have:x<y:=by
  unfold sgI at h
  split at h <;> split at h <;> (try split at h) <;> (try split at h) <;> omega
 unfold sgI
 rw [if_neg (by omega),if_pos (by omega)]
theorem AnP {x:Int} (h:sgI y<sgI x):sgI (x - y)=1:=by
 have:=Ahy h
 have h2:y<x:=by
  unfold sgI at h
  split at h <;> split at h <;> (try split at h) <;> (try split at h) <;> omega
 unfold sgI
 rw [if_neg (by omega),if_neg (by omega)]
theorem Xr (x:Int):sgI (-x) = -sgI x:=by
 unfold sgI
 by_cases h:x=0
 ·subst h;rfl
 ·by_cases h2:x<0
  ·rw [if_neg (by omega),if_neg (by omega),if_neg h,if_pos h2];rfl
  ·rw [if_neg (by omega),if_pos (by omega),if_neg h,if_neg h2]
theorem Xs (x:Int) (k:Nat):((x.natAbs*2 ^ k:Nat):Int)=(if x<0 then -(x*2 ^ k) else x*2 ^ k):=by
 have e:((x.natAbs*2 ^ k:Nat):Int)=(x.natAbs:Int)*2 ^ k:=by simp
 rw [e]
 by_cases h:x<0
 ·rw [if_pos h,show (x.natAbs:Int) = -x by omega,di]
 ·rw [if_neg h,show (x.natAbs:Int)=x by omega]
theorem OZ (x:Int) : -1≤sgI x∧sgI x≤1:=by
 unfold sgI
 split
 ·omega
 ·split <;> omega
theorem AkC {v2:Value} {x:Int} {dx dy lo1 lo2 m:Nat} (D1:DyR w lo1 m v x dx) (D2:DyR w lo2 m v2 y dy) (hm:m≤w.heap.size) (l1:(Ac x.natAbs).length≤50000) (l2:(Ac y.natAbs).length≤50000) :
  Calls prog 29 #[v,v2] w fun e w'=>∃ u1 u2 D,e=.returned (.tuple #[.bool (decide (x<0)),u1,.bool (decide (y<0)),u2,.int .i64 (D:Int)]) ∧
   WdR w' w'.heap.size u1 (x.natAbs*2 ^ (max dx dy - dx))∧WdR w' w'.heap.size u2 (y.natAbs*2 ^ (max dx dy - dy))∧Below w.heap.size w w':=by
 have hd1:=D1.bound.1
 have hd2:=D2.bound.1
 obtain ⟨nb1,A1,L1,c1,rfl,HD1⟩:=D1.form
 obtain ⟨nb2,A2,L2,c2,rfl,HD2⟩:=D2.form
 have b0:Below w.heap.size w ((w.alloc (.cells #[.bool nb1,.slice A1 L1 c1,.int .i64 (dx:Int)] 43)).alloc (.cells #[.bool nb2,.slice A2 L2 c2,.int .i64 (dy:Int)] 43)):=Ap (Ap (ab _ _) _) _
 have r0:=(BI.new_ w [.bool nb1,.slice A1 L1 c1,.int .i64 (dx:Int)] 43).call (al_ _ (.cells #[.bool nb2,.slice A2 L2 c2,.int .i64 (dy:Int)] 43))
 have r1:=BI.new_ (w.alloc (.cells #[.bool nb1,.slice A1 L1 c1,.int .i64 (dx:Int)] 43)) [.bool nb2,.slice A2 L2 c2,.int .i64 (dy:Int)] 43
 rw [show (w.alloc (.cells #[.bool nb1,.slice A1 L1 c1,.int .i64 (dx:Int)] 43)).heap.size=w.heap.size+1 by simp] at r1
 have D1':=ll D1
 have D2':=ll D2
 obtain ⟨D,hD⟩:∃ D:Nat,D=max dx dy:=⟨_,rfl⟩
 have hDD:max (dx:Int) (dy:Int)=(D:Int):=by omega
 obtain ⟨p,hp⟩:∃ p:Nat,p=D - dx:=⟨_,rfl⟩
 obtain ⟨q,hq⟩:∃ q:Nat,q=D - dy:=⟨_,rfl⟩
 have hpp:(D:Int) - (dx:Int)=(p:Int):=by omega
 have hqq:(D:Int) - (dy:Int)=(q:Int):=by omega
 have hp6:p≤1000000:=by omega
 have hq6:q≤1000000:=by omega
 rw [←hD,←hp,←hq]
 clear D1 D2 hD hp hq
 go_enter func29,ntmps29
 go_wp2_with fail
 go_at_call 71
 refine (Gs (D1'.out.below b0 hm) (by simp;omega) (by omega)).mono ?_
 rintro e w1 ⟨nb',A',L',c',he,rfl,hb1⟩
 cases he
 have s1:=r1.below hb1 (by simp)
 have b1:=b0.trans (hb1.mono (by simp;omega))
 have k0:w1.cell? ⟨w.heap.size+1,0,none⟩=some (.bool nb2):=s1.cell 0
 have k1:w1.cell? ⟨w.heap.size+1,1,none⟩=some (.slice A2 L2 c2):=s1.cell 1
 have k2:w1.cell? ⟨w.heap.size+1,2,none⟩=some (.int .i64 (dy:Int)):=s1.cell 2
 clear hb1 r0 r1 b0
 go_wp2_with fail
 go_at_call 71
 have hs1:=b1.size
 refine (Gs (D2'.out.below b1 hm) (by omega) (by omega)).mono ?_
 rintro e w2 ⟨nb',A',L',c',he,rfl,hb2⟩
 cases he
 have b2:=b1.trans (hb2.mono hs1)
 have X1:=(D1'.out.below b2 hm).words
 have X2:=ll (D2'.out.below b2 hm).words
 clear hb2 b1 k0 k1 k2 s1
 go_wp2_with fail
 go_at_call 72
 have hs2:=b2.size
 refine (Vy X1 (by omega) (by omega) hp6).mono ?_
 rintro e w3 ⟨v3,rfl,Y1,hb3⟩
 have b3:=b2.trans (hb3.mono hs2)
 have X2':=X2.out.below hb3 (by omega)
 obtain ⟨A3,L3,c3,rfl⟩:=Y1.form
 clear hb3 b2 X1 X2 hs2 hs1
 go_wp2_with fail
 go_at_call 72
 have hs3:=b3.size
 refine (Vy X2' (by omega) (by omega) hq6).mono ?_
 rintro e w4 ⟨v4,rfl,Y2,hb4⟩
 obtain ⟨A4,L4,c4,rfl⟩:=Y2.form
 go_wp2_with fail
 refine bodyPost_ret (v:=.tuple #[.bool nb1,.slice A3 L3 c3,.bool nb2,.slice A4 L4 c4,.int .i64 (D:Int)]) (by simp [results,results29,go_sem]) rfl ⟨.slice A3 L3 c3,.slice A4 L4 c4,D,by rw [HD1.out.1,HD2.out.1],(Y1.below hb4 (aa _)).more hb4.size,Y2,b3.trans (hb4.mono hs3)⟩
theorem Afs {v2:Value} {x:Int} {dx dy lo1 lo2 m:Nat} (D1:DyR w lo1 m v x dx) (D2:DyR w lo2 m v2 y dy) (hm:m≤w.heap.size) (l1:(Ac x.natAbs).length≤50000) (l2:(Ac y.natAbs).length≤50000) :
    Calls prog 9 #[v,v2] w fun e w'=>e=.returned (.int .i64 (Aat x dx y dy))∧Below w.heap.size w w':=by
  have hd1:=D1.bound.1
  have hd2:=D2.bound.1
  obtain ⟨nb1,A1,L1,c1,rfl,HD1⟩:=D1.form
  obtain ⟨nb2,A2,L2,c2,rfl,HD2⟩:=D2.form
  have b0:Below w.heap.size w ((w.alloc (.cells #[.bool nb1,.slice A1 L1 c1,.int .i64 (dx:Int)] 43)).alloc (.cells #[.bool nb2,.slice A2 L2 c2,.int .i64 (dy:Int)] 43)):=Ap (Ap (ab _ _) _) _
  have r0:=(BI.new_ w [.bool nb1,.slice A1 L1 c1,.int .i64 (dx:Int)] 43).call (al_ _ (.cells #[.bool nb2,.slice A2 L2 c2,.int .i64 (dy:Int)] 43))
  have r1:=BI.new_ (w.alloc (.cells #[.bool nb1,.slice A1 L1 c1,.int .i64 (dx:Int)] 43)) [.bool nb2,.slice A2 L2 c2,.int .i64 (dy:Int)] 43
  rw [show (w.alloc (.cells #[.bool nb1,.slice A1 L1 c1,.int .i64 (dx:Int)] 43)).heap.size=w.heap.size+1 by simp] at r1
  have D1':=D1.below b0 hm
  have D2':=D2.below b0 hm
  clear D1 D2
  go_enter func9,ntmps9
  go_wp2_with fail
  obtain ⟨W,hW⟩:∃ W,W=((w.alloc (.cells #[.bool nb1,.slice A1 L1 c1,.int .i64 (dx:Int)] 43)).alloc (.cells #[.bool nb2,.slice A2 L2 c2,.int .i64 (dy:Int)] 43)):=⟨_,rfl⟩
  have hWs:W.heap.size=w.heap.size+2:=by rw [hW];simp
  rw [←hW]
  rw [←hW] at b0 D1' D2' r0 r1
  clear hW
  have a0:W.cell? ⟨w.heap.size,0,none⟩=some (.bool nb1):=r0.cell 0
  have a1:W.cell? ⟨w.heap.size,1,none⟩=some (.slice A1 L1 c1):=r0.cell 1
  have a2:W.cell? ⟨w.heap.size,2,none⟩=some (.int .i64 (dx:Int)):=r0.cell 2
  have e0:W.cell? ⟨w.heap.size+1,0,none⟩=some (.bool nb2):=r1.cell 0
  have e1:W.cell? ⟨w.heap.size+1,1,none⟩=some (.slice A2 L2 c2):=r1.cell 1
  have e2:W.cell? ⟨w.heap.size+1,2,none⟩=some (.int .i64 (dy:Int)):=r1.cell 2
  have hz:w.heap.size+2≤W.heap.size:=by omega
  have hle:m≤w.heap.size+2:=by omega
  obtain ⟨sx,hsx⟩:∃ sx,sx=sgI x:=⟨_,rfl⟩
  obtain ⟨sy,hsy⟩:∃ sy,sy=sgI y:=⟨_,rfl⟩
  have HSX:=ll hsx
  have HSY:=ll hsy
  have hrx:=OZ x
  have hry:=OZ y
  rw [←hsx] at hrx
  rw [←hsy] at hry
  have hc1:∀ u:Qr W (w.heap.size+2),Calls prog 28 #[.agg #[.bool nb1,.slice A1 L1 c1,.int .i64 (dx:Int)]] u.val fun e w'=>e=.returned (.int .i64 sx)∧Below u.val.heap.size u.val w':=fun u=>by
    rw [hsx];exact AaR (D1'.below u.is hle) (lT hle u.fits) (by omega)
  have hc2:∀ u:Qr W (w.heap.size+2),Calls prog 28 #[.agg #[.bool nb2,.slice A2 L2 c2,.int .i64 (dy:Int)]] u.val fun e w'=>e=.returned (.int .i64 sy)∧Below u.val.heap.size u.val w':=fun u=>by
    rw [hsy];exact AaR (D2'.below u.is hle) (lT hle u.fits) (by omega)
  have HC1:=ll hc1
  have HC2:=ll hc2
  clear hsx hsy hc1 hc2 hWs
  refine Ql (w.heap.size+2) hz (by kernel_rfl) (by kernel_rfl) ?_
  intro _
  repeat (go_big_quiet_step ((first
    | (go_at_call_of 28 (Value.agg #[.bool nb1,.slice A1 L1 c1,.int .i64 (dx:Int)]);exact Mb (HC1.out _))
    | (go_at_call_of 28 (Value.agg #[.bool nb2,.slice A2 L2 c2,.int .i64 (dy:Int)]);exact Mb (HC2.out _)))))
  refine wpQuiet_nil ?_
  intro w2 hw'
  obtain ⟨⟨_,hb2,hz2⟩,rfl⟩:=hw'
  have s0:=r0.below hb2 (by omega)
  have s1:=r1.below hb2 (by omega)
  have b2:=b0.trans (hb2.mono (by omega))
  replace D1':=D1'.below hb2 hle
  replace D2':=D2'.below hb2 hle
  clear r0 r1 b0 a0 a1 a2 e0 e1 e2 hz hb2 HC1 HC2
  have a0:w2.cell? ⟨w.heap.size,0,none⟩=some (.bool nb1):=s0.cell 0
  have a1:w2.cell? ⟨w.heap.size,1,none⟩=some (.slice A1 L1 c1):=s0.cell 1
  have a2:w2.cell? ⟨w.heap.size,2,none⟩=some (.int .i64 (dx:Int)):=s0.cell 2
  have e0:w2.cell? ⟨w.heap.size+1,0,none⟩=some (.bool nb2):=s1.cell 0
  have e1:w2.cell? ⟨w.heap.size+1,1,none⟩=some (.slice A2 L2 c2):=s1.cell 1
  have e2:w2.cell? ⟨w.heap.size+1,2,none⟩=some (.int .i64 (dy:Int)):=s1.cell 2
  by_cases hne:sx=sy
  · have hnb:(sx != sy)=false:=by rw [hne];simp
    have HNE:=ll hne
    clear hne
    go_wp2_with fail
    go_at_call 29
    refine (AkC D1' D2' (by omega) l1 l2).mono ?_
    rintro e w3 ⟨u1,u2,D,rfl,Y1,Y2,hb3⟩
    have b3:=b2.trans (hb3.mono (by omega))
    obtain ⟨A3,L3,c3,rfl⟩:=Y1.form
    obtain ⟨A4,L4,c4,rfl⟩:=Y2.form
    have hla:(Ac (x.natAbs*2 ^ (max dx dy - dx))).length≤100000:=by
      have:=Bz x.natAbs (max dx dy - dx)
      omega
    have hlb:(Ac (y.natAbs*2 ^ (max dx dy - dy))).length≤100000:=by
      have:=Bz y.natAbs (max dx dy - dy)
      omega
    have HLA:=ll hla
    have HLB:=ll hlb
    have Y1':=ll Y1
    have Y2':=ll Y2
    obtain ⟨cv,hcv⟩:∃ cv,cv=sgI (((x.natAbs*2 ^ (max dx dy - dx):Nat):Int) - ((y.natAbs*2 ^ (max dx dy - dy):Nat):Int)):=⟨_,rfl⟩
    have hcr:=OZ (((x.natAbs*2 ^ (max dx dy - dx):Nat):Int) - ((y.natAbs*2 ^ (max dx dy - dy):Nat):Int))
    rw [←hcv] at hcr
    have HCV:=ll hcv
    have hres:Aat x dx y dy=if x<0 then -cv else cv:=by
      have hs:(x<0) ↔ (y<0):=by
        have h5:=HNE.out
        rw [HSX.out,HSY.out] at h5
        unfold sgI at h5
        constructor <;> intro h6 <;> (repeat (first|split at h5|omega))
      have hz:(x=0) ↔ (y=0):=by
        have h5:=HNE.out
        rw [HSX.out,HSY.out] at h5
        unfold sgI at h5
        constructor <;> intro h6 <;> (repeat (first|split at h5|omega))
      rw [hcv,Xs,Xs]
      unfold Aat
      by_cases h:x<0
      · rw [if_pos h,if_pos h,if_pos (hs.1 h),←Xr]
        congr 1
        omega
      · rw [if_neg h,if_neg h,if_neg (fun h2=>h (hs.2 h2))]
    have HRES:=ll hres
    clear hla hlb Y1 Y2 hcv hres hb3 b2
    cases hdx:decide (x<0) with
    | true =>
      have HXN := ll (show x < 0 by simpa using hdx)
      clear hdx
      go_wp2_with (go_at_call 30;refine (MJ Y1'.out Y2'.out HLA.out HLB.out).mono ?_;rintro e w4 ⟨rfl,hb4⟩;rw [←HCV.out])
      go_ret
      exact ⟨by rw [HRES.out,if_pos HXN.out];rfl,b3.trans (hb4.mono (by have:=b3.size;omega))⟩
    | false =>
      have HXN := ll (show ¬ x < 0 by simpa using hdx)
      clear hdx
      go_wp2_with (go_at_call 30;refine (MJ Y1'.out Y2'.out HLA.out HLB.out).mono ?_;rintro e w4 ⟨rfl,hb4⟩;rw [←HCV.out])
      go_ret
      exact ⟨by rw [HRES.out,if_neg (by have:=HXN.out;omega)];rfl,b3.trans (hb4.mono (by have:=b3.size;omega))⟩
  · have hnb:(sx != sy)=true:=by simpa using hne
    by_cases hlt:sx<sy
    · have HV := ll (show Aat x dx y dy = -1 by unfold Aat; refine Ahy ?_; rw [Gx, Gx, ← HSX.out, ← HSY.out]; exact hlt)
      have hltb:decide (sx<sy)=true:=decide_eq_true hlt
      clear hne
      go_wp2_with fail
      go_ret
      exact ⟨by rw [HV.out];rfl,b2⟩
    · have HV := ll (show Aat x dx y dy = 1 by unfold Aat; refine AnP ?_; rw [Gx, Gx, ← HSX.out, ← HSY.out]; omega)
      have hltb:decide (sx<sy)=false:=decide_eq_false hlt
      clear hne
      go_wp2_with fail
      go_ret
      exact ⟨by rw [HV.out];rfl,b2⟩
structure Bk where
 kind:Int
 A:Option Addr
 args:List Int
 cap:Nat
 vn:Int
 ve:Int
 un:Int
 ue:Int
def Bk.cells (b:Bk):List Value:=[.int .i64 b.kind,.slice b.A b.args.length b.cap,.int .i64 b.vn,.int .i64 b.ve,.int .i64 b.un,.int .i64 b.ue]
def bk0:Bk:=⟨0,none,[],0,0,0,0,0⟩
def Dp (bs:List Bk) (i:Nat):Int:=(bs[i]?.getD bk0).kind
def Xt (bs:List Bk) (i:Nat):List Int:=(bs[i]?.getD bk0).args
def NI (bs:List Bk) (i:Nat):List Int:=if Dp bs i=0 then [] else Xt bs i
theorem AnQ:∀ {l1 l2:List Nat},l1.Nodup→(∀ x∈l1,x∈l2)→l1.length≤l2.length
 | [],_,_,_=>ad _
 | x::l,l2,hn,hs=>by
  have hx:=hs x (by simp)
  have hn':=List.nodup_cons.1 hn
  have:=AnQ (l1:=l) (l2:=l2.erase x) hn'.2 (fun y hy=>(List.mem_erase_of_ne (fun h=>hn'.1 (by rw [←h];exact hy))).2 (hs y (by simp [hy])))
  rw [List.length_erase_of_mem hx] at this
  have hp:0<l2.length:=List.length_pos_of_mem hx
  simp
  omega
theorem Zu (p:Nat→Bool) (l:List Nat):(l.filter p).length+(l.filter fun i=>!p i).length=l.length:=by
 induction l with
 | nil=>rfl
 | cons x l ih =>
  simp only [List.filter_cons]
  cases h:p x <;> simp <;> omega
/- The order. -/
def EU (bs:List Bk) (out:List Nat) (j:Nat):Bool:=Dp bs j == 2 || out.contains j
def rdy (bs:List Bk) (out:List Nat) (i:Nat):Bool:=!EU bs out i && (NI bs i).all fun a=>EU bs out a.toNat
def nxt (bs:List Bk) (out:List Nat):Option Nat:=(List.range bs.length).find? (rdy bs out)
def Xu (bs:List Bk):Nat→List Nat→List Nat
 | 0,out=>out
 | f+1,out=>match nxt bs out with
  | none=>out
  | some i=>Xu bs f (out++[i])
def Dw (bs:List Bk):Nat:=((List.range bs.length).filter fun i=>Dp bs i != 2).length
def Co (bs:List Bk):List Nat:=Xu bs bs.length []
def AX (bs:List Bk):List Nat:=(List.range bs.length).filter fun i=>Dp bs i == 2
structure GY (bs:List Bk) (out:List Nat):Prop where
 nodup:out.Nodup
 mem:∀ j∈out,j<bs.length∧Dp bs j≠2
theorem RL {bs:List Bk} (h:nxt bs out=some i):i<bs.length∧rdy bs out i=true:=by
 have h1:=List.find?_some h
 have h2:=List.mem_of_find?_eq_some h
 exact ⟨by simpa using h2,h1⟩
theorem GY.nil (bs:List Bk):GY bs []:=⟨List.nodup_nil,by simp⟩
theorem GY.push {bs:List Bk} (h:GY bs out) {i:Nat} (hn:nxt bs out=some i):GY bs (out++[i]):=by
 obtain ⟨h1,h2⟩:=RL hn
 simp only [rdy,EU,ai,Bool.not_eq_true',lc,beq_eq_false_iff_ne] at h2
 refine ⟨List.nodup_append.2 ⟨h.nodup,by simp,fun x hx y hy=>?_⟩,fun j hj=>?_⟩
 ·simp at hy
  subst hy
  intro he
  subst he
  have:=h2.1.2
  simp [hx] at this
 ·rcases List.mem_append.1 hj with hj|hj
  ·exact h.mem j hj
  ·simp at hj
   subst hj
   exact ⟨h1,h2.1.1⟩
theorem GY.le {bs:List Bk} (h:GY bs out):out.length≤Dw bs:=by
 have hs:out ⊆ (List.range bs.length).filter fun i=>Dp bs i != 2:=fun j hj=>by
  have:=h.mem j hj
  simp [this.1,this.2]
 exact AnQ h.nodup hs
theorem Hm (bs:List Bk):Dw bs≤bs.length:=by
 unfold Dw
 have:=List.length_filter_le (fun i=>Dp bs i != 2) (List.range bs.length)
 simpa using this
theorem Pa {bs:List Bk}:∀ (f:Nat) {out:List Nat},GY bs out→GY bs (Xu bs f out)
 | 0,_,h=>h
 | f+1,out,h=>by
  unfold Xu
  split
  ·exact h
  ·rename_i i hi
   exact Pa f (h.push hi)
theorem TY {bs:List Bk}:∀ (f g:Nat) {out:List Nat},GY bs out→Dw bs - out.length≤f→f≤g→Xu bs f out=Xu bs g out
 | 0,g,out,h,hf,_=>by
  have hfull:out.length=Dw bs:=by have:=h.le;omega
  cases g with
  | zero=>rfl
  | succ g =>
   show out=match nxt bs out with|none=>out|some i=>Xu bs g (out++[i])
   cases hn:nxt bs out with
   | none=>rfl
   | some i =>
    have:=(h.push hn).le
    simp at this
    omega
 | f+1,0,_,_,_,hg=>by omega
 | f+1,g+1,out,h,hf,hg=>by
  show (match nxt bs out with|none=>out|some i=>Xu bs f (out++[i]))=match nxt bs out with|none=>out|some i=>Xu bs g (out++[i])
  cases hn:nxt bs out with
  | none=>rfl
  | some i=>exact TY f g (h.push hn) (by simp;omega) (by omega)
theorem AkD (bs:List Bk):(AX bs).length+Dw bs=bs.length:=by
 unfold AX Dw
 have h:=Zu (fun i=>Dp bs i == 2) (List.range bs.length)
 rw [fb] at h
 exact h
/- What a block depends on. -/
def TZ (bs:List Bk) (over:Bool) (i:Nat):List Int:=if Dp bs i=2∧over=false then [] else NI bs i
def Xv (bs:List Bk):Prop:=∀ i,i<bs.length→∀ a∈NI bs i,0≤a∧a<(bs.length:Int)
theorem VQ {bs:List Bk} {over:Bool} (h:a∈TZ bs over i):a∈NI bs i:=by
 unfold TZ at h
 split at h
 ·cases h
 ·exact h
/- The document's way: pass after pass. -/
def Bw (k:Int):Int:=if k=1 then 0 else if k=0∨k=2∨k=5∨k=10∨k=6∨k=11 then 1 else if k=3∨k=4∨k=7∨k=8∨k=9 then 2 else -1
def Lx (n lo hi:Int):Bool:=decide (lo≤n∧n≤hi)
def DN (num ex:Int):Prop := -2147483648<num∧num<2147483648 ∧ -62≤ex∧ex≤30
instance (num ex:Int):Decidable (DN num ex):=by unfold DN;infer_instance
def CD (num ex:Int) (used:Bool):Int:=if used=true then (if DN num ex then 0 else 3) else (if num=0∧ex=0 then 0 else 2)
def Tj (num ex:Int):Int:=num*2 ^ (ex+62).toNat
def NJ (an ae bn be:Int):Int:=sgI (Tj an ae - Tj bn be)
theorem Ip {num ex:Int} (h1 : -62≤ex) (h2:ex≤30):(Af num 0 ex).1*2 ^ 62=Tj num ex*2 ^ (Af num 0 ex).2:=by
 unfold Af Tj
 have e:max (-65536) (min ex 65536)=ex:=by omega
 rw [e]
 by_cases h:ex<0
 ·rw [if_pos h]
  obtain ⟨n,hn⟩:∃ n:Nat,ex = -(n:Int):=⟨(-ex).toNat,by omega⟩
  have e1:(-ex).toNat=n:=by omega
  have e2:(ex+62).toNat=62 - n:=by omega
  rw [e1,e2,av]
  have h3:=AaN num n
  have h4:(2:Int) ^ 62=2 ^ n*2 ^ (62 - n):=by rw [←ak,show n+(62 - n)=62 by omega]
  rw [h4,←am,h3,am,am,du (2 ^ _) (2 ^ _)]
 ·rw [if_neg h]
  obtain ⟨n,rfl⟩:=gm (show 0≤ex by omega)
  rw [ap,FO (by omega),show ((n:Int)+62).toNat=n+62 by omega,ak]
  simp [am]
theorem AkE {an ae bn be:Int} (h1:DN an ae) (h2:DN bn be):Aat (Af an 0 ae).1 (Af an 0 ae).2 (Af bn 0 be).1 (Af bn 0 be).2=NJ an ae bn be:=by
 have e1:=Ip h1.2.2.1 h1.2.2.2 (num:=an)
 have e2:=Ip h2.2.2.1 h2.2.2.2 (num:=bn)
 unfold Aat NJ
 revert e1 e2
 generalize Af an 0 ae=p
 generalize Af bn 0 be=q
 obtain ⟨x,dx⟩:=p
 obtain ⟨y,dy⟩:=q
 generalize Tj an ae=V1
 generalize Tj bn be=V2
 intro e1 e2
 dsimp only at e1 e2 ⊢
 rw [←Gx _ 62,←Gx (V1 - V2) (max dx dy)]
 congr 1
 have f1:(2:Int) ^ max dx dy=2 ^ dx*2 ^ (max dx dy - dx):=by rw [←ak,show dx+(max dx dy - dx)=max dx dy by omega]
 have f2:(2:Int) ^ max dx dy=2 ^ dy*2 ^ (max dx dy - dy):=by rw [←ak,show dy+(max dx dy - dy)=max dx dy by omega]
 rw [Int.sub_mul,Int.sub_mul]
 congr 1
 ·rw [f1,←am,←e1,am,am,du (2 ^ _) (2 ^ _)]
 ·rw [f2,←am,←e2,am,am,du (2 ^ _) (2 ^ _)]
structure RM (n e n0 e0 e1:Int):Prop where
 eq:Tj n e=Tj n0 e0
 lo : -62≤e
 hi:e≤e0
 least:e=e0∨e1≤e
 small : -4294967296<n∧n<4294967296
 same:e=e0→n=n0
theorem VR {x:Int} (h:0<x):sgI x=1:=by unfold sgI;rw [if_neg (by omega),if_neg (by omega)]
theorem VS {x:Int} (h:x<0):sgI x = -1:=by unfold sgI;rw [if_neg (by omega),if_pos h]
theorem Abz (k:Nat) (h : -62≤e - k):Tj n e=(n*2 ^ k)*2 ^ (e - k+62).toNat:=by
 unfold Tj
 rw [am,←ak,show k+(e - (k:Int)+62).toNat=(e+62).toNat by omega]
theorem AbA (h:2147483648≤n) (k:Nat):2147483648≤n*2 ^ k:=by
 have hp:(1:Int)≤2 ^ k:=by have:=ga (n:=2) (m:=k) (by decide);omega
 have:=jz hp (show 0≤n by omega)
 omega
theorem AkF (h:n ≤ -2147483648) (k:Nat):n*2 ^ k ≤ -2147483648:=by
 have:=AbA (n := -n) (by omega) k
 rw [di] at this
 omega
theorem Xw (x y:Int):sgI (x - y) = -sgI (y - x):=by rw [←Xr];congr 1;omega
theorem Xx {ea b eb:Int} (h1 : -62≤eb) (h2:eb≤ea) (h:ea=eb∨a=0∨2147483648≤a∨a ≤ -2147483648) (hb : -2147483648<b∧b<2147483648):sgI (Tj a ea - Tj b eb)=sgI (a - b):=by
 obtain ⟨k,hk⟩:=gm (show 0≤ea - eb by omega)
 have e1:Tj a ea=(a*2 ^ k)*2 ^ (eb+62).toNat:=by rw [Abz k (by omega),show ea - (k:Int)=eb by omega]
 have e2:Tj a ea - Tj b eb=(a*2 ^ k - b)*2 ^ (eb+62).toNat:=by rw [e1,Int.sub_mul];rfl
 rw [e2,Gx]
 rcases h with h|h|h|h
 ·have:k=0:=by omega
  subst this
  simp
 ·subst h;simp
 ·have:=AbA h k
  rw [VR (by omega),VR (by omega)]
 ·have:=AkF h k
  rw [VS (by omega),VS (by omega)]
theorem Aft {ea b eb:Int} (h1 : -62≤ea) (h2:ea≤eb) (h:eb=ea∨b=0∨2147483648≤b∨b ≤ -2147483648) (ha : -2147483648<a∧a<2147483648):sgI (Tj a ea - Tj b eb)=sgI (a - b):=by
 rw [Xw,Xx h1 h2 h ha,←Xw]
theorem Xy {n0 e0 e1:Int} (h:RM n e n0 e0 e1) (hs : -2147483648<n∧n<2147483648) (hgt:e1<e) (h1 : -62≤e1):RM (2*n) (e - 1) n0 e0 e1 :=
 ⟨by rw [←h.eq,Abz (n:=n) (e:=e) 1 (by omega)];unfold Tj;rw [du 2 n];rfl,by omega,by have:=h.hi;omega,.inr (by omega),by omega,fun h2=>by have:=h.hi;omega⟩
theorem Dd (x y:Int):sgI (x - y)=if x<y then -1 else if y<x then 1 else 0:=by
 by_cases h:x<y
 ·rw [if_pos h,VS (by omega)]
 ·rw [if_neg h]
  by_cases h2:y<x
  ·rw [if_pos h2,VR (by omega)]
  ·rw [if_neg h2,show x - y=0 by omega];rfl
theorem Gy {an ae bn be n2 e2:Int} (H1:RM n e an ae be) (X1:e≤be∨n=0∨2147483648≤n∨n ≤ -2147483648) (H2:RM n2 e2 bn be e) (X2:e2≤e∨n2=0∨2147483648≤n2∨n2 ≤ -2147483648)
  (sa : -2147483648<an∧an<2147483648) (sb : -2147483648<bn∧bn<2147483648):NJ an ae bn be=sgI (n - n2):=by
 unfold NJ
 rw [←H1.eq,←H2.eq]
 have l1:=H1.lo
 have l2:=H2.lo
 have u1:=H1.hi
 have u2:=H2.hi
 by_cases hc:be≤e
 ·have he:e2=be:=by rcases H2.least with h|h <;> omega
  have hn:=H2.same he
  exact Xx l2 (by omega) (by rcases X1 with h|h|h|h <;> omega) (by rw [hn];exact sb)
 ·have he:e=ae:=by rcases H1.least with h|h <;> omega
  have hn:=H1.same he
  exact Aft l1 (by rcases H2.least with h|h <;> omega) (by rcases X2 with h|h|h|h <;> rcases H2.least with h'|h' <;> omega) (by rw [hn];exact sa)
open Go.Deep
theorem Fk {bs:List Bk} {k:Nat} {x:Bk} (h:bs[k]?=some x):Dp bs k=x.kind:=by simp [Dp,h]
theorem AkG {bs:List Bk} {k:Nat} {x:Bk} (h:bs[k]?=some x):Xt bs k=x.args:=by simp [Xt,h]
theorem Og {bs:List Bk} {k:Nat} {x:Bk} (h:bs[k]?=some x):NI bs k=if x.kind=0 then [] else x.args:=by simp [NI,Fk h,AkG h]
theorem Xz {bs:List Bk} {k:Nat} {x:Bk} {over:Bool} (h:bs[k]?=some x):TZ bs over k=if x.kind=2∧over=false then [] else if x.kind=0 then [] else x.args:=by simp [TZ,Fk h,Og h]
def BU (l:List Nat):List Int:=l.map fun n:Nat=>(n:Int)
def fl (p:Nat→Bool) (k:Nat):List Nat:=(List.range k).filter p
theorem AbB {k:Nat} (h:p k=true):fl p (k+1)=fl p k++[k]:=by unfold fl;rw [dk,List.filter_append];simp [h]
theorem AkH {k:Nat} (h:p k=false):fl p (k+1)=fl p k:=by unfold fl;rw [dk,List.filter_append];simp [h]
theorem AkI (p:Nat→Bool) (k:Nat):(fl p k).length≤k:=by unfold fl;simpa using List.length_filter_le p (List.range k)
def CL (bs:List Bk) (i:Nat):Bool:=Dp bs i == 2
open Go.ChangeShapes Go.WideShapes Go.ChangeAt Go.Joins
theorem XA {α:Type} {f:α→List Value} {s:Nat} (hf:∀ x,(f x).length=s) (l:List α):(Tg f l).length=l.length*s:=by
 induction l with
 | nil=>simp [Tg]
 | cons x l ih =>
  simp only [Tg,bp,gg,ao,hf] at ih ⊢
  rw [ih,bw,Nat.succ_mul,Nat.add_comm]
theorem Afu {cs:List Value} (h:∀ c∈cs,∃z:Int,c=.int .i64 z ∧ -9223372036854775808≤z∧z≤9223372036854775807):∃ zs:List Int,cs=NV zs∧∀ z∈zs,-9223372036854775808≤z∧z≤9223372036854775807:=by
 induction cs with
 | nil=>exact ⟨[],rfl,by simp⟩
 | cons c cs ih =>
  obtain ⟨zs,rfl,hz⟩:=ih (fun c hc=>h c (by simp [hc]))
  obtain ⟨z,rfl,hb⟩:=h c (by simp)
  exact ⟨z::zs,rfl,fun y hy=>by
   rcases List.mem_cons.1 hy with rfl|hy
   ·exact hb
   ·exact hz y hy⟩
section
variable {H:Type} {enc:TypeId × Value→H} {P:Program} {w:World} {spare:Nat→Bool} {held:Bool}
theorem XB {e:TypeId} {fs:Array Field} {cs:List Value} {x:DataW H × List MemPlace} (hs:P.underlying e=some (.struct fs)) (hone:oneCellFields P fs=true) (hint:∀ (i:Nat) (f:Field),fs[i]?=some f→P.underlying f.type=some (.int .i64)) (hC:P.cellsOf e=fs.size)
  (h:DataW.trod enc P w 0 spare held fuel e cs=some x):∃ zs:List Int,cs=NV zs∧zs.length=fs.size∧∀ z∈zs,-9223372036854775808≤z∧z≤9223372036854775807:=by
 obtain ⟨xs,n,_,_,hlen,hxl,hg⟩:=DataW.trod_struct hs h
 obtain ⟨zs,rfl,hz⟩:=Afu (cs:=cs) (fun c hc=>by
  obtain ⟨i,hi⟩:=gb hc
  have hil:i<cs.length:=(gS.1 hi).1
  have hif:i<fs.size:=by omega
  have hf:fs[i]?=some fs[i]:=by simp [hif]
  obtain ⟨o0,k0⟩:=hone_of hone i fs[i] hf
  have hgi:=hg i fs[i] hf
  rw [o0,k0,take1_drop cs i undef hil,gE (by omega)] at hgi
  obtain ⟨z,hz,_,hw⟩:=DataW.trod_int (hint i fs[i] hf) hgi
  have hd:cs.getD i undef=c:=by simp [List.getD,hi]
  rw [hd] at hz
  exact ⟨z,by simpa using hz,bounds_i64 hw⟩)
 exact ⟨zs,rfl,by rw [←Rq,hlen,hC],hz⟩
theorem AnR {p:Prop} (h:p:=by
 rcases cw b w.heap.size with h|h
 ·exact h
 ·simp [World.cell?,Addr.add,fq h] at h00):p:=h
theorem Ua {α:Type} {f:α→List Value} {s:Nat} (mk:List Int→α) (hmk:∀ zs,zs.length=s→f (mk zs)=NV zs) (hfl:∀ x,(f x).length=s) (hs0:0<s) {t e:TypeId} {fs:Array Field} {fuel:Nat} {v:Value} {x:DataW H × List MemPlace} (ht:P.underlying t=some (.slice e)) (hs:P.underlying e=some (.struct fs)) (hone:oneCellFields P fs=true) (hint:∀ (i:Nat) (f:Field),fs[i]?=some f→P.underlying f.type=some (.int .i64)) (hC:P.cellsOf e=fs.size) (hsz:fs.size=s)
  (h:DataW.trod enc P w 0 spare held fuel t [v]=some x) :
  ∃ (A:Option Addr) (cap:Nat) (l:List α),v=.slice A l.length cap∧(A=none→cap=0)∧l.length≤cap∧l.length≤maxLen∧Aq w w.heap.size A (Tg f l)∧(∀ x∈l,∃zs,x=mk zs∧zs.length=s∧∀ z∈zs,-9223372036854775808≤z∧z≤9223372036854775807):=by
 rcases open_slice ht h with ⟨hcs,_⟩|⟨a,len,cap,m,n,D,Pl,hcs,_,hl,hm,hmm,_,hx⟩
 ·exact ⟨none,0,[],by simpa using hcs,fun _=>rfl,aa _,ad _,Aq.nil_,by simp⟩
 ·have hle:len≤m:=by rw [hmm];split <;> omega
  rw [hC,hsz] at hx
  obtain ⟨R,hR⟩:=choose_lt (α:=List Int) (n:=len) (p:=fun i zs=>zs.length=s∧(∀ z∈zs,-9223372036854775808≤z∧z≤9223372036854775807)∧∀ j,j<s→w.cell? (a.add (i*s+j))=(NV zs)[j]?) (fun i hi=>by
   obtain ⟨cs',h1,h2⟩:=hx i (by omega)
   obtain ⟨zs,rfl,hzl,hzb⟩:=XB hs hone hint hC h2
   obtain ⟨_,hlen,hcell⟩:=World.cells?_some h1
   exact ⟨zs,hzl.trans hsz,hzb,fun j hj=>by rw [←add_add];exact hcell j hj⟩)
  refine ⟨some a,cap,(List.range len).map (fun i=>mk (R i)),by simpa using hcs,by simp,by simpa using hl,by simp;omega,fun hne=>?_,?_⟩
  ·have hpos:0<len:=by
    rcases dh len with h0|h0
    ·subst h0;simp [Tg] at hne
    ·exact h0
   obtain ⟨b,off,spot⟩:=a
   have h00:=(hR 0 hpos).2.2 0 hs0
   have hz0:(NV (R 0))[0]?=some ((NV (R 0))[0]'(by rw [Rq,(hR 0 hpos).1];exact hs0)):=gE _
   rw [hz0] at h00
   have hspot:spot=none:=by simpa [Addr.add] using World.cell?_spot h00
   subst hspot
   have hb:b<w.heap.size:=by
    exact AnR
   refine ⟨b,off,rfl,hb,hb,fun j u hu=>?_⟩
   have hjl:j<len*s:=by
    have:=(gS.1 hu).1
    rw [XA hfl] at this
    simpa using this
   have hk:j / s<len:=Nat.div_lt_of_lt_mul (by rw [aw];exact hjl)
   have hr:j % s<s:=eo _ hs0
   have hj:j / s*s+j % s=j:=by rw [aw];exact dn j s
   have hg:((List.range len).map (fun i=>mk (R i)))[j / s]?=some (mk (R (j / s))):=by simp [hk]
   have h1:=Rr hfl hg hr
   rw [hj,hu,hmk _ (hR _ hk).1] at h1
   have h2:=(hR _ hk).2.2 (j % s) hr
   rw [hj,←h1] at h2
   rw [←Go.WideShapes.add_plain]
   exact h2
  ·intro y hy
   obtain ⟨i,hi,rfl⟩:=List.mem_map.1 hy
   have:=hR i (by simpa using hi)
   exact ⟨_,rfl,this.1,this.2.1⟩
theorem Mk {e:TypeId} {x:DataW H × List MemPlace} (ht:P.underlying t=some (.slice e)) (he:P.underlying e=some (.int .i64)) (hc:P.cellsOf e=1)
  (h:DataW.trod enc P w 0 spare held fuel t [v]=some x) :
  ∃ (A:Option Addr) (cap:Nat) (zs:List Int),v=.slice A zs.length cap∧(A=none→cap=0)∧zs.length≤cap∧zs.length≤maxLen∧Aq w w.heap.size A (NV zs)∧(∀ z∈zs,-9223372036854775808≤z∧z≤9223372036854775807):=by
 obtain ⟨A,cap,zs,hv,h1,h2,h3,h4⟩:=Tp ht he hc h
 refine ⟨A,cap,zs,hv,fun hA=>?_,h1,h2,h3,h4⟩
 subst hA hv
 rcases open_slice ht h with ⟨hcs,_⟩|⟨a,len,cap',m,n,D,Pl,hcs,_⟩
 ·simp at hcs
  exact hcs.2
 ·simp at hcs
end
theorem BP (l:List Nat):(BU l).length=l.length:=by simp [BU]
theorem Oh (l:List Nat) (i:Nat):BU (l++[i])=BU l++[(i:Int)]:=by simp [BU]
theorem XD (l:List Nat) (i:Nat):(BU l).contains (i:Int)=l.contains i:=by
 induction l with
 | nil=>rfl
 | cons x l ih =>
  show List.contains ((x:Int)::BU l) (i:Int)=_
  rw [List.contains_cons,List.contains_cons,ih]
  have e:((i:Int) == (x:Int))=(i == x):=by
   by_cases h:i=x
   ·subst h;simp
   ·rw [beq_eq_false_iff_ne.2 h,beq_eq_false_iff_ne.2 (show ¬ (i:Int)=(x:Int) by omega)]
  rw [e]
theorem Pb (bs:List Bk) (out:List Nat) (i:Nat):rdy bs out i=(!EU bs out i && (NI bs i).all fun a=>EU bs out a.toNat):=rfl
def RN (bs:List Bk) (out:List Nat) (k:Nat):Prop:=∀ j,j<k→rdy bs out j=false
theorem RN.zero (bs:List Bk) (out:List Nat):RN bs out 0:=fun j h=>absurd h (fo j)
theorem RN.succ {bs:List Bk} {k:Nat} (h:RN bs out k) (h2:rdy bs out k=false):RN bs out (k+1):=fun j hj=>by
 by_cases e:j=k
 ·subst e;exact h2
 ·exact h j (by omega)
theorem Zv {n k:Nat} (hk:k<n) (h:∀ j,j<k→p j=false) (h2:p k=true):(List.range n).find? p=some k:=by
 rw [List.find?_eq_some_iff_append]
 refine ⟨h2,List.range k,(List.range n).drop (k+1),?_,fun a ha=>by simpa using h a (by simpa using ha)⟩
 refine ef fun i=>?_
 rcases Nat.lt_trichotomy i k with h3|h3|h3
 ·rw [ek (by simpa using h3)]
  simp [h3,show i<n by omega]
 ·subst h3
  rw [dw (by simp)]
  simp [hk]
 ·rw [dw (by simp;omega)]
  simp only [fb]
  obtain ⟨q,rfl⟩:∃ q,i=k+1+q:=⟨i - k - 1,by omega⟩
  rw [show k+1+q - k=q+1 by omega]
  simp [bt]
theorem AbC {n:Nat} (h:∀ j,j<n→p j=false):(List.range n).find? p=none:=by
 rw [List.find?_eq_none]
 intro x hx
 simpa using h x (by simpa using hx)
theorem AnS {bs:List Bk} {k:Nat} (hk:k<bs.length) (h:RN bs out k) (h2:rdy bs out k=true):nxt bs out=some k:=Zv hk h h2
theorem Afv {bs:List Bk} (h:RN bs out bs.length):nxt bs out=none:=AbC h
structure Ly (bs:List Bk) (out:List Nat):Prop where
 ok:GY bs out
 more:Xu bs bs.length out=Co bs
theorem Ly.nil (bs:List Bk):Ly bs []:=⟨GY.nil bs,rfl⟩
theorem Ly.push {bs:List Bk} (h:Ly bs out) (hn:nxt bs out=some i):Ly bs (out++[i]):=by
 refine ⟨h.ok.push hn,?_⟩
 have h1:=TY bs.length (bs.length+1) h.ok (by have:=Hm bs;omega) (by omega)
 rw [←h.more,h1]
 show _=match nxt bs out with|none=>out|some i=>Xu bs bs.length (out++[i])
 rw [hn]
theorem Ly.done {bs:List Bk} (h:Ly bs out) (hn:nxt bs out=none):Co bs=out:=by
 rw [←h.more]
 cases hb:bs.length with
 | zero=>rfl
 | succ f =>
  show (match nxt bs out with|none=>out|some i=>Xu bs f (out++[i]))=out
  rw [hn]
theorem Ly.full {bs:List Bk} (h:Ly bs out) (hf:Dw bs≤out.length):Co bs=out:=by
 refine h.done ?_
 cases hn:nxt bs out with
 | none=>rfl
 | some i =>
  have:=(h.ok.push hn).le
  simp at this
  omega
theorem Ly.lt {bs:List Bk} (h:Ly bs out) (hn:nxt bs out=some i):out.length<Dw bs:=by
 have:=(h.ok.push hn).le
 simp at this
 omega
def AkJ (bs:List Bk) (out:List Nat) (xs:List Int) (t:Nat):Bool:=(xs.take t).all fun a=>EU bs out a.toNat
theorem Ub {bs:List Bk} {t:Nat} (h:xs[t]?=some a):AkJ bs out xs (t+1)=(AkJ bs out xs t && EU bs out a.toNat):=by
 unfold AkJ
 rw [bh,h,List.all_append]
 simp
theorem XE {bs:List Bk} {t:Nat} (h:xs.length≤t):AkJ bs out xs t=xs.all fun a=>EU bs out a.toNat:=by unfold AkJ;rw [aj h]
theorem XF {bs:List Bk} {a:Nat} {x:Bk} (h:bs[a]?=some x):EU bs out a=(x.kind == 2 || out.contains a):=by unfold EU;rw [Fk h]
def Gb (bs:List Bk):Int:=if (Co bs).length=Dw bs then 0 else 24
def AmH (bs:List Bk):List Int:=if Gb bs=0 then BU (Co bs) else []
def GZ (bs:List Bk) (k:Nat):List Bool:=(List.range bs.length).map fun j=>decide (j<k) && CL bs j
def Gc (bs:List Bk) (out:List Nat):List Bool:=(List.range bs.length).map (EU bs out)
theorem Uc (bs:List Bk) (k:Nat):(GZ bs k).length=bs.length:=by simp [GZ]
theorem AbD (bs:List Bk) (out:List Nat):(Gc bs out).length=bs.length:=by simp [Gc]
theorem Zw (bs:List Bk):GZ bs 0=List.replicate bs.length false:=by
 refine ja (by simp [GZ]) fun i h1 h2=>?_
 simp [GZ]
theorem AbE (bs:List Bk):GZ bs bs.length=Gc bs []:=by
 refine ja (by simp [GZ,Gc]) fun i h1 h2=>?_
 have:i<bs.length:=by rw [Uc] at h1;exact h1
 simp [GZ,Gc,EU,CL,this]
theorem AbF {bs:List Bk} {k:Nat} (hd:CL bs k=true):(GZ bs k).set k true=GZ bs (k+1):=by
 refine ja (by simp [GZ]) fun i h1 h2=>?_
 rw [List.getElem_set]
 simp only [GZ,ky,List.getElem_range]
 by_cases h:k=i
 ·subst h;simp [hd]
 ·rw [if_neg h]
  congr 1
  exact decide_eq_decide.2 (by omega)
theorem Afw {bs:List Bk} {k:Nat} (hd:CL bs k=false):GZ bs (k+1)=GZ bs k:=by
 refine ja (by simp [GZ]) fun i h1 h2=>?_
 simp only [GZ,ky,List.getElem_range]
 by_cases h:i=k
 ·subst h;simp [hd]
 ·congr 1
  exact decide_eq_decide.2 (by omega)
theorem Zx (bs:List Bk) (out:List Nat) (p:Nat):Gc bs (out++[p])=(Gc bs out).set p true:=by
 refine ja (by simp [Gc]) fun i h1 h2=>?_
 rw [List.getElem_set]
 simp only [Gc,ky,List.getElem_range,EU]
 by_cases h:p=i
 ·subst h;simp
 ·have h2:¬ i=p:=fun e=>h e.symm
  simp [h,h2]
def Pc (bs:List Bk) (i:Nat):Bool:=Dp bs i != 2
theorem Zy (bs:List Bk):(fl (Pc bs) bs.length).length=Dw bs:=rfl
def Ml (bs:List Bk) (out:List Nat) (k:Nat):Int:=match (List.range k).find? (rdy bs out) with|none => -1|some p=>(p:Int)
theorem Zz (bs:List Bk) (out:List Nat):Ml bs out 0 = -1:=rfl
theorem AbG {bs:List Bk} {k:Nat} (hp:Ml bs out k<0) (hr:rdy bs out k=true):Ml bs out (k+1)=(k:Int):=by
 unfold Ml at hp ⊢
 rw [dk,List.find?_append]
 cases h:(List.range k).find? (rdy bs out) with
 | none=>simp [hr]
 | some p=>rw [h] at hp;simp at hp;omega
theorem RP {bs:List Bk} {k:Nat} (h:0≤Ml bs out k∨rdy bs out k=false):Ml bs out (k+1)=Ml bs out k:=by
 unfold Ml at h ⊢
 rw [dk,List.find?_append]
 cases hf:(List.range k).find? (rdy bs out) with
 | none =>
  rw [hf] at h
  rcases h with h|h
  ·simp at h
  ·simp [h]
 | some p=>simp
theorem AbH {bs:List Bk} (h:nxt bs out=none):Ml bs out bs.length = -1:=by unfold Ml;unfold nxt at h;rw [h]
theorem AbI {bs:List Bk} {p:Nat} (h:nxt bs out=some p):Ml bs out bs.length=(p:Int):=by unfold Ml;unfold nxt at h;rw [h]
theorem AbJ {bs:List Bk} {k:Nat} (hd:EU bs out k=false):rdy bs out k=(TZ bs false k).all fun a=>EU bs out a.toNat:=by
 rw [Pb,hd]
 have hk:Dp bs k≠2:=by
  unfold EU at hd
  simp at hd
  exact hd.1
 unfold TZ
 rw [if_neg (fun h=>hk h.1)]
 simp
def NK (n:Nat) (a:Int):Int:=if 0≤a∧a<(n:Int) then 0 else 10
def Lz (k:Int):Bool:=k == 11
def Pd (k:Int):Bool:=k == 11 || k == 1 || k == 2 || k == 6
def EE (np nb:Nat) (k:Int):Nat:=if k=0 then np else nb
def Cd (np nb:Nat) (b:Bk):Int :=
 if Bw b.kind<0 then 7 else if ¬ ((b.args.length:Nat):Int)=Bw b.kind then 11 else if ¬ Ar (b.args.map (NK (EE np nb b.kind)))=0 then 10
 else if ¬ CD b.vn b.ve (Pd b.kind)=0 then CD b.vn b.ve (Pd b.kind) else if ¬ CD b.un b.ue (Lz b.kind)=0 then CD b.un b.ue (Lz b.kind)
 else if Lz b.kind=true∧0<NJ b.vn b.ve b.un b.ue then 26 else 0
section
variable {np nb:Nat} {b:Bk}
theorem be1 (h:Bw b.kind<0):Cd np nb b=7:=if_pos h
theorem be2 (h:¬ Bw b.kind<0) (h2:¬ ((b.args.length:Nat):Int)=Bw b.kind):Cd np nb b=11:=by unfold Cd;rw [if_neg h,if_pos h2]
theorem be3 (h:¬ Bw b.kind<0) (h2:((b.args.length:Nat):Int)=Bw b.kind) {M:Nat} (hM:EE np nb b.kind=M) (h3:¬ Ar (b.args.map (NK M))=0):Cd np nb b=10:=by
 subst hM;unfold Cd;rw [if_neg h,if_neg (not_not_intro h2),if_pos h3]
theorem be4 (h:¬ Bw b.kind<0) (h2:((b.args.length:Nat):Int)=Bw b.kind) {M:Nat} (hM:EE np nb b.kind=M) (h3:Ar (b.args.map (NK M))=0) {vu:Bool} (hv:Pd b.kind=vu) (h4:¬ CD b.vn b.ve vu=0):Cd np nb b=CD b.vn b.ve vu:=by
 subst hM hv;unfold Cd;rw [if_neg h,if_neg (not_not_intro h2),if_neg (not_not_intro h3),if_pos h4]
theorem be5 (h:¬ Bw b.kind<0) (h2:((b.args.length:Nat):Int)=Bw b.kind) {M:Nat} (hM:EE np nb b.kind=M) (h3:Ar (b.args.map (NK M))=0) {vu cu:Bool} (hv:Pd b.kind=vu) (h4:CD b.vn b.ve vu=0) (hc:Lz b.kind=cu)
  (h5:¬ CD b.un b.ue cu=0):Cd np nb b=CD b.un b.ue cu:=by
 subst hM hv hc;unfold Cd;rw [if_neg h,if_neg (not_not_intro h2),if_neg (not_not_intro h3),if_neg (not_not_intro h4),if_pos h5]
theorem be6 (h:¬ Bw b.kind<0) (h2:((b.args.length:Nat):Int)=Bw b.kind) {M:Nat} (hM:EE np nb b.kind=M) (h3:Ar (b.args.map (NK M))=0) {vu cu:Bool} (hv:Pd b.kind=vu) (h4:CD b.vn b.ve vu=0) (hc:Lz b.kind=cu)
  (h5:CD b.un b.ue cu=0) (h6:cu=true∧0<NJ b.vn b.ve b.un b.ue):Cd np nb b=26:=by
 subst hM hv hc;unfold Cd;rw [if_neg h,if_neg (not_not_intro h2),if_neg (not_not_intro h3),if_neg (not_not_intro h4),if_neg (not_not_intro h5),if_pos h6]
theorem be7 (h:¬ Bw b.kind<0) (h2:((b.args.length:Nat):Int)=Bw b.kind) {M:Nat} (hM:EE np nb b.kind=M) (h3:Ar (b.args.map (NK M))=0) {vu cu:Bool} (hv:Pd b.kind=vu) (h4:CD b.vn b.ve vu=0) (hc:Lz b.kind=cu)
  (h5:CD b.un b.ue cu=0) (h6:¬ (cu=true∧0<NJ b.vn b.ve b.un b.ue)):Cd np nb b=0:=by
 subst hM hv hc;unfold Cd;rw [if_neg h,if_neg (not_not_intro h2),if_neg (not_not_intro h3),if_neg (not_not_intro h4),if_neg (not_not_intro h5),if_neg h6]
end
theorem Pe (h:CD n e true=0):DN n e:=by
 unfold CD at h
 rw [if_pos rfl] at h
 by_cases hs:DN n e
 ·exact hs
 ·rw [if_neg hs] at h;cases h
theorem RQ {args:List Int} {M t:Nat} (hz:args[t]?=some z) (hb:¬ (0≤z∧z<(M:Int))) (hf:Ar ((args.map (NK M)).take t)=0):¬ Ar (args.map (NK M))=0:=by
 rw [AaA (k:=t) (e:=10) (by rw [ag,hz];exact congrArg some (if_neg hb)) (by decide) hf]
 decide
theorem XG {args:List Int} {M t:Nat} (hz:args[t]?=some z) (hb:0≤z∧z<(M:Int)) (hf:Ar ((args.map (NK M)).take t)=0):Ar ((args.map (NK M)).take (t+1))=0 :=
 Aaz (by rw [ag,hz];exact congrArg some (if_pos hb)) hf
def Fv (p:Prt):Int:=if -2147483648≤p.lo∧p.lo≤p.hi∧p.hi<2147483648∧0≤p.fr∧p.fr≤30 then 0 else 3
def FF (ps:List Prt) (bs:List Bk) (os:List Int):Prop:=ps.length≤16∧bs.length≤64∧os.length≤16
def Fl (ps:List Prt) (bs:List Bk) (os:List Int):Int:=Ar (ps.map Fv++(bs.map (Cd ps.length bs.length)++os.map (NK bs.length)))
instance (ps:List Prt) (bs:List Bk) (os:List Int):Decidable (FF ps bs os):=by unfold FF;infer_instance
def AY (ps:List Prt) (bs:List Bk) (os:List Int):Int:=if ¬ FF ps bs os then 4 else if ¬ Fl ps bs os=0 then Fl ps bs os else Gb bs
theorem Ec {l:List Int} (h:Ar l=0):∀ x∈l,x=0:=by
 induction l with
 | nil=>simp
 | cons y l ih =>
  unfold Ar at h
  by_cases hy:y=0
  ·rw [if_pos hy] at h
   intro x hx
   rcases List.mem_cons.1 hx with rfl|hx
   ·exact hy
   ·exact ih h x hx
  ·rw [if_neg hy] at h
   exact absurd h hy
theorem XH {np nb:Nat} {b:Bk} (h:Cd np nb b=0):0≤Bw b.kind∧((b.args.length:Nat):Int)=Bw b.kind∧∀ a∈b.args,0≤a∧a<(EE np nb b.kind:Int):=by
 unfold Cd at h
 by_cases h1:Bw b.kind<0
 ·rw [if_pos h1] at h;cases h
 ·rw [if_neg h1] at h
  by_cases h2:¬ ((b.args.length:Nat):Int)=Bw b.kind
  ·rw [if_pos h2] at h;cases h
  ·rw [if_neg h2] at h
   by_cases h3:¬ Ar (b.args.map (NK (EE np nb b.kind)))=0
   ·rw [if_pos h3] at h;cases h
   ·refine ⟨by omega,Decidable.of_not_not h2,fun a ha=>?_⟩
    have:=Ec (Decidable.of_not_not h3) (NK (EE np nb b.kind) a) (kc ha)
    unfold NK at this
    by_cases h4:0≤a∧a<(EE np nb b.kind:Int)
    ·exact h4
    ·rw [if_neg h4] at this;cases this
theorem VT {np:Nat} {bs:List Bk} (h:Ar (bs.map (Cd np bs.length))=0):Xv bs:=by
 intro i hi a ha
 have hx:=gE hi
 rw [Og hx] at ha
 by_cases hk:bs[i].kind=0
 ·rw [if_pos hk] at ha;cases ha
 ·rw [if_neg hk] at ha
  have h0:=Ec h (Cd np bs.length bs[i]) (kc (fu hi))
  have:=(XH h0).2.2 a ha
  unfold EE at this
  rw [if_neg hk] at this
  exact this
section
variable {ps:List Prt} {bs:List Bk} {os:List Int}
theorem de0 (h:¬ FF ps bs os):AY ps bs os=4:=if_pos h
theorem de1 (h:FF ps bs os) {e:Int} (h2:Fl ps bs os=e) (h3:¬ e=0):AY ps bs os=e:=by subst h2;unfold AY;rw [if_neg (not_not_intro h),if_pos h3]
theorem de2 (h:FF ps bs os) (h2:Fl ps bs os=0):AY ps bs os=Gb bs:=by unfold AY;rw [if_neg (not_not_intro h),if_neg (not_not_intro h2)]
theorem pe1 {k:Nat} {p:Prt} (hp:ps[k]?=some p) (he:Fv p=e) (h0:¬ e=0) (hf:Ar ((ps.map Fv).take k)=0):Fl ps bs os=e :=
 Ahj (pre:=[]) (k:=k) rfl (by rw [ag,hp];exact congrArg some he) h0 hf
theorem pe2 {k:Nat} {b:Bk} (h1:Ar (ps.map Fv)=0) (hp:bs[k]?=some b) (he:Cd ps.length bs.length b=e) (h0:¬ e=0) (hf:Ar ((bs.map (Cd ps.length bs.length)).take k)=0):Fl ps bs os=e :=
 Ahj h1 (k:=k) (by rw [ag,hp];exact congrArg some he) h0 hf
theorem pe3 {k:Nat} {o:Int} (h1:Ar (ps.map Fv)=0) (h2:Ar (bs.map (Cd ps.length bs.length))=0) (hp:os[k]?=some o) (he:NK bs.length o=e) (h0:¬ e=0) (hf:Ar ((os.map (NK bs.length)).take k)=0):Fl ps bs os=e:=by
 unfold Fl
 rw [Bp,if_pos h1,Bp,if_pos h2]
 exact AaA (k:=k) (by rw [ag,hp];exact congrArg some he) h0 hf
theorem pe4 (h1:Ar (ps.map Fv)=0) (h2:Ar (bs.map (Cd ps.length bs.length))=0) (h3:Ar (os.map (NK bs.length))=0):Fl ps bs os=0:=by
 unfold Fl
 rw [Bp,if_pos h1,Bp,if_pos h2,h3]
theorem fs1 {α:Type} {l:List α} {f:α→Int} {k:Nat} {x:α} (hx:l[k]?=some x) (he:f x=0) (hf:Ar ((l.map f).take k)=0):Ar ((l.map f).take (k+1))=0:=Aaz (by rw [ag,hx];exact congrArg some he) hf
end
theorem Ud {bs:List Bk} (h:AY ps bs os=0):FF ps bs os∧Fl ps bs os=0∧Gb bs=0:=by
 unfold AY at h
 by_cases h1:FF ps bs os
 ·rw [if_neg (not_not_intro h1)] at h
  by_cases h2:Fl ps bs os=0
  ·rw [if_neg (not_not_intro h2)] at h
   exact ⟨h1,h2,h⟩
  ·rw [if_pos h2] at h
   exact absurd h h2
 ·rw [if_pos h1] at h;cases h
theorem AbK {bs:List Bk} (h:Fl ps bs os=0):Ar (bs.map (Cd ps.length bs.length))=0:=by
 unfold Fl at h
 rw [Bp] at h
 by_cases h1:Ar (ps.map Fv)=0
 ·rw [if_pos h1,Bp] at h
  by_cases h2:Ar (bs.map (Cd ps.length bs.length))=0
  ·exact h2
  ·rw [if_neg h2] at h;exact h
 ·rw [if_neg h1] at h;exact absurd h h1
theorem AbL {bs:List Bk} (h:AY ps bs os=0):Xv bs:=VT (AbK (Ud h).2.1)
set_option maxRecDepth 100000
def AeR (z:Int):Prop := -9223372036854775808≤z∧z≤9223372036854775807
def AnT (zs:List Int):Prt:=⟨zs.getD 0 0,zs.getD 1 0,zs.getD 2 0⟩
theorem VU (zs:List Int) (h:zs.length=3):(AnT zs).cells=NV zs:=by
 match zs,h with
 | [_,_,_],_=>rfl
theorem QK {fs:Array Field} (h:fs.all (fun f=>f.type == 3)=true):∀ (i:Nat) (f:Field),fs[i]?=some f→prog.underlying f.type=some (.int .i64):=by
 intro i f hf
 have hi:=(Array.getElem?_eq_some_iff.1 hf)
 have:=Array.all_eq_true.1 h i hi.1
 rw [hi.2] at this
 have e:f.type=3:=by simpa using this
 rw [e]
 exact underlying3
section
variable {H:Type} {enc:TypeId × Value→H} {w:World} {spare:Nat→Bool} {held:Bool}
def bkB (x:Bk):Prop:=AeR x.kind∧AeR x.vn∧AeR x.ve∧AeR x.un∧AeR x.ue
theorem QL {cs:List Value} {x:DataW H × List MemPlace} (h:DataW.trod enc prog w 0 spare held fuel 63 cs=some x):∃ n e:Int,cs=[.int .i64 n,.int .i64 e]∧AeR n∧AeR e:=by
 obtain ⟨zs,rfl,hl,hz⟩:=XB underlying63 (by kernel_rfl) (QK (by kernel_rfl)) (by kernel_rfl) h
 match zs,hl with
 | [n,e],_=>exact ⟨n,e,rfl,hz _ (by simp),hz _ (by simp)⟩
theorem AkK {cs:List Value} {x:DataW H × List MemPlace} (h:DataW.trod enc prog w 0 spare held fuel 65 cs=some x) :
  ∃ b:Bk,cs=b.cells∧(b.A=none→b.cap=0)∧b.args.length≤b.cap∧b.args.length≤maxLen∧Aq w w.heap.size b.A (NV b.args)∧(∀ z∈b.args,AeR z)∧bkB b:=by
 obtain ⟨xs,n,_,_,hlen,hxl,hg⟩:=DataW.trod_struct underlying65 h
 have hl6:cs.length=6:=hlen.trans (by kernel_rfl)
 match cs,hl6 with
 | [c0,c1,c2,c3,c4,c5],_ =>
  have k1:prog.cellsOf 3=1:=by kernel_rfl
  have k2:prog.cellsOf 24=1:=by kernel_rfl
  have k3:prog.cellsOf 63=2:=by kernel_rfl
  have hx4:xs.length=4:=hxl
  match xs,hx4 with
  | [x0,x1,x2,x3],_ =>
   have g0:DataW.trod enc prog w 0 spare held n 3 (([c0,c1,c2,c3,c4,c5].drop 0).take (prog.cellsOf 3))=some x0:=hg 0 _ rfl
   have g1:DataW.trod enc prog w 0 spare held n 24 (([c0,c1,c2,c3,c4,c5].drop 1).take (prog.cellsOf 24))=some x1:=hg 1 _ rfl
   have g2:DataW.trod enc prog w 0 spare held n 63 (([c0,c1,c2,c3,c4,c5].drop 2).take (prog.cellsOf 63))=some x2:=hg 2 _ rfl
   have g3:DataW.trod enc prog w 0 spare held n 63 (([c0,c1,c2,c3,c4,c5].drop 4).take (prog.cellsOf 63))=some x3:=hg 3 _ rfl
   rw [k1] at g0
   rw [k2] at g1
   rw [k3] at g2 g3
   obtain ⟨kind,hk,_,hkb⟩:=DataW.trod_int underlying3 g0
   obtain ⟨A,cap,args,ha,hA0,hc1,hc2,hc3,hc4⟩:=Mk underlying24 underlying3 (by kernel_rfl) g1
   obtain ⟨vn,ve,hv,b1,b2⟩:=QL g2
   obtain ⟨un,ue,hu,b3,b4⟩:=QL g3
   refine ⟨⟨kind,A,args,cap,vn,ve,un,ue⟩,?_,hA0,hc1,hc2,hc3,hc4,bounds_i64 hkb,b1,b2,b3,b4⟩
   have e0:[c0]=[Value.int .i64 kind]:=hk
   have e2:[c2,c3]=[Value.int .i64 vn,Value.int .i64 ve]:=hv
   have e3:[c4,c5]=[Value.int .i64 un,Value.int .i64 ue]:=hu
   simp only [List.cons.injEq,and_true] at e0 e2 e3
   rw [e0,ha,e2.1,e2.2,e3.1,e3.2]
   rfl
instance:Inhabited Bk:=⟨bk0⟩
theorem Ue {x:DataW H × List MemPlace} (h:DataW.trod enc prog w 0 spare held fuel 23 [v]=some x) :
  ∃ (A:Option Addr) (cap:Nat) (l:List Bk),v=.slice A l.length cap∧l.length≤maxLen∧Aq w w.heap.size A (Tg Bk.cells l) ∧
   ∀ b∈l,(b.A=none→b.cap=0)∧b.args.length≤b.cap∧b.args.length≤maxLen∧Aq w w.heap.size b.A (NV b.args)∧(∀ z∈b.args,AeR z)∧bkB b:=by
 rcases open_slice underlying23 h with ⟨hcs,_⟩|⟨a,len,cap,m,n,D,Pl,hcs,_,hl,hm,hmm,_,hx⟩
 ·exact ⟨none,0,[],by simpa using hcs,ad _,Aq.nil_,by simp⟩
 ·have hle:len≤m:=by rw [hmm];split <;> omega
  rw [show prog.cellsOf 65=6 by kernel_rfl] at hx
  obtain ⟨R,hR⟩:=choose_lt (α:=Bk) (n:=len) (p:=fun i b=>((b.A=none→b.cap=0)∧b.args.length≤b.cap∧b.args.length≤maxLen∧Aq w w.heap.size b.A (NV b.args)∧(∀ z∈b.args,AeR z)∧bkB b)∧∀ j,j<6→w.cell? (a.add (i*6+j))=b.cells[j]?) (fun i hi=>by
   obtain ⟨cs',h1,h2⟩:=hx i (by omega)
   obtain ⟨b,rfl,hb⟩:=AkK h2
   obtain ⟨_,hlen,hcell⟩:=World.cells?_some h1
   exact ⟨b,hb,fun j hj=>by rw [←add_add];exact hcell j hj⟩)
  refine ⟨some a,cap,(List.range len).map R,by simpa using hcs,by simp;omega,fun hne=>?_,?_⟩
  ·have hpos:0<len:=by
    rcases dh len with h0|h0
    ·subst h0;simp [Tg] at hne
    ·exact h0
   obtain ⟨b,off,spot⟩:=a
   have h00:=(hR 0 hpos).2 0 (by decide)
   have hz0:(R 0).cells[0]?=some (.int .i64 (R 0).kind):=rfl
   rw [hz0] at h00
   have hspot:spot=none:=by simpa [Addr.add] using World.cell?_spot h00
   subst hspot
   have hb:b<w.heap.size:=by
    exact AnR
   refine ⟨b,off,rfl,hb,hb,fun j u hu=>?_⟩
   have hjl:j<len*6:=by
    have:=(gS.1 hu).1
    rw [XA (s:=6) (fun _=>rfl)] at this
    simpa using this
   have hk:j / 6<len:=Nat.div_lt_of_lt_mul (by rw [aw];exact hjl)
   have hr:j % 6<6:=eo _ (by decide)
   have hj:j / 6*6+j % 6=j:=by rw [aw];exact dn j 6
   have hg:((List.range len).map R)[j / 6]?=some (R (j / 6)):=by simp [hk]
   have h1:=Rr (f:=Bk.cells) (s:=6) (fun _=>rfl) hg hr
   rw [hj,hu] at h1
   have h2:=(hR _ hk).2 (j % 6) hr
   rw [hj,←h1] at h2
   rw [←Go.WideShapes.add_plain]
   exact h2
  ·intro y hy
   obtain ⟨i,hi,rfl⟩:=List.mem_map.1 hy
   exact (hR i (by simpa using hi)).1
end
/- Light. -/
theorem XI {α:Type} {p:α→Bool} {l:List α} {k:Nat} {x:α} (hx:l[k]?=some x) (h:(l.take k).all p=true) (hp:p x=true):(l.take (k+1)).all p=true:=by
 rw [bh,hx,List.all_append,h]
 simp [hp]
theorem Ir {xs:List Value} (h:Ba (Bx w S) (vs.map .val) xs):xs=vs:=by
 induction vs generalizing xs with
 | nil=>exact h.unnil
 | cons v vs ih =>
  obtain ⟨x,xs',rfl,h1,h2⟩:=(show Ba (Bx w S) (D.val v::vs.map .val) xs from h).uncons
  cases h1
  rw [ih h2]
theorem XJ (h:∀ v∈vs,v.oneCell'=true):Ba (Bx w S) (vs.map .val) vs :=
 ⟨by simp,fun j d v hd hv=>by
  simp only [ag,hv,dc,Option.some.injEq] at hd
  subst hd
  exact .val (h v (gM hv))⟩
theorem AnU (xs:List Int):xs.map dI=(NV xs).map .val:=by simp [NV,dI]
def Ahz (p:Prt):List D:=[dI p.lo,dI p.hi,dI p.fr]
def dBk (t:Bool) (b:Bk):List D:=[dI b.kind,AU t b.args,dI b.vn,dI b.ve,dI b.un,dI b.ue]
def CY (t:Bool) (ps:List Prt):D:=.row t 3 ps.length (An Ahz ps)
def Cw (t:Bool) (bs:List Bk):D:=.row t 6 bs.length (An (dBk t) bs)
def dDg (t:Bool) (ps:List Prt) (bs:List Bk) (os:List Int):List D:=[CY t ps,Cw t bs,AU t os]
def aDg (t:Bool) (ps:List Prt) (bs:List Bk) (os:List Int):A:=.agg (dDg t ps bs os)
def aE (n:Int):A:=.one (.val (Rs n))
theorem Afx (n:Int):(Rs n).oneCell'=true:=by unfold Rs;split <;> rfl
theorem ZA {α:Type} {f:α→List D} {g:α→List Value} (h:∀ x,f x=(g x).map .val) (l:List α):An f l=(Tg g l).map .val:=by
 induction l with
 | nil=>rfl
 | cons x l ih =>
  simp only [An,Tg,bp,gg,gc] at ih ⊢
  rw [ih,h]
theorem AbM (p:Prt):Ahz p=(Prt.cells p).map .val:=rfl
structure Dx (ps:List Prt) (bs:List Bk) (os:List Int):Prop where
 l1:ps.length≤1000000
 l2:bs.length≤1000000
 l3:os.length≤1000000
 la:∀ b∈bs,b.args.length≤1000000
theorem NL (w w':World) (h:Below w.heap.size w w') (ht:Ah w):Ah w':=ht.call h
theorem Na {x y:A} {a b:Value} (h1:Ft w S x a) (h2:Ft w S y b):Afc w S [x,y] (.tuple #[a,b]):=⟨[a,b],rfl,.cons_ h1 (.cons_ h2 .nil_)⟩
theorem BM {x:A} (h:Ba (Ft w S) [x] vs):∃ v,vs=[v]∧Ft w S x v:=by
 obtain ⟨v,vs',rfl,h1,h2⟩:=h.uncons
 rw [h2.unnil]
 exact ⟨v,rfl,h1⟩
theorem Dq {t:Bool} {bs:List Bk} {k:Nat} {y:Bk} (h:bs[k]?=some y):((An (dBk t) bs).drop (k*6)).take 6=dBk t y:=FE (f:=dBk t) (s:=6) (fun _=>rfl) h
theorem IV {k:Nat} {y:Prt} (h:ps[k]?=some y):((An Ahz ps).drop (k*3)).take 3=Ahz y:=FE (f:=Ahz) (s:=3) (fun _=>rfl) h
theorem Ay {k:Nat} (h:xs[k]?=some z):((xs.map dI).drop (k*1)).take 1=[dI z]:=Ahw h
theorem AnV (xs:List Int):DY (AU false xs):=.row fun d hd=>by obtain ⟨z,_,rfl⟩:=List.mem_map.1 hd;exact .val _
theorem BV {α:Type} {f:α→List D} (hf:∀ x,∀ d∈f x,DY d) (l:List α):∀ d∈An f l,DY d:=fun d hd=>by
 obtain ⟨ds,h1,h2⟩:=List.mem_flatten.1 hd
 obtain ⟨x,_,rfl⟩:=List.mem_map.1 h1
 exact hf x d h2
section
variable {P:Program} {G:World→Prop} {o:Oper} {F:Frm} {H:List Ob}
theorem BN {x:Operand} (ho:o.op=.binOp .neq t x (.const .nilIface) t') (ht:TyI P t) (hx:F.ev x=.one (.d (.val (Rs E)))) (hb:(E != 0)=b):AZ P G o F H (.one (.d (.val (.bool b)))) []:=by
 by_cases h:E=0
 ·refine RJ ho ht hx (.inr (.inl ⟨rfl,?_,?_⟩))
  ·rw [h,AaC]
  ·rw [←hb,OX h]
 ·refine RJ ho ht hx (.inr (.inr (.inr ⟨rfl,⟨_,_,WX h⟩,?_⟩)))
  rw [←hb,Hl h]
theorem Dz {x:Operand} (ho:o.op=.binOp .eql t x (.const .nilIface) t') (ht:TyI P t) (hx:F.ev x=.one (.d (.val (Rs E)))) (hb:(E == 0)=b):AZ P G o F H (.one (.d (.val (.bool b)))) []:=by
 by_cases h:E=0
 ·refine RJ ho ht hx (.inl ⟨rfl,?_,?_⟩)
  ·rw [h,AaC]
  ·rw [←hb,Qn h]
 ·refine RJ ho ht hx (.inr (.inr (.inl ⟨rfl,⟨_,_,WX h⟩,?_⟩)))
  rw [←hb,TU h]
theorem AbN {t:Tmp} (hF:F t=.one (.d (.val (Rs E)))) (hz:E=E'):RV P F H (.tmp t) (aE E'):=.tmp (by rw [hF,hz];exact .one (.d fun _=>.val _))
theorem Hc {t:Tmp} (hF:F t=.one (.d (.val .nilIface))) (hz:E'=0):RV P F H (.tmp t) (aE E'):=.tmp (by rw [hF,hz];exact .one (.d fun _=>.val _))
theorem ZB {t:Tmp} (hF:F t=.one (.d (.val (.iface 85 (.int .i64 n))))) (h0:n≠0) (hz:E'=n):RV P F H (.tmp t) (aE E'):=.tmp (by rw [hF,hz,←WX h0];exact .one (.d fun _=>.val _))
theorem AhA {t:Tmp} {ty ty' id k:Nat} {cs:List C} {ds:List D} {y:A} (hF:F t=.one (.ref id 0 none)) (hH:H[id]?=some (.box ty' cs)) (hk:TyK P ty true k) (hi:cs.length=k) (hy:y=.agg ds) (h:Ba (FB false H) cs ds):RV P F H (.cell t ty) y:=by
 obtain ⟨d,h1,h2⟩:=hk.h
 rw [hy]
 exact .cellA hF hH h1 h2 (by rw [hk.s,hi]) h
end
structure Hd9 (p:Prop):Prop where
 o:p
theorem qq {p p':Prop} (k:p') (h:p'→p:=by first|exact qa|exact qb|exact qc|exact qd|exact qe|exact qf|exact qg|exact qh|exact qi|exact qj|exact qk|exact ql rfl|exact qm rfl|exact qn rfl|exact Je):p:=h k
theorem cvz {f:FuncId} {fn:Func} {c:Code} {N:Nat} {args res:List A} (hf:prog.funcs[f]?=some fn) (hN:fn.ntmps=N) (k:CW prog Ah N c (F0 args) [] (Arn prog fn res)) (hb:fn.body=some c:=by exact rfl) (ha:args.length≤N:=by exact ax rfl):CV prog Ah f args res:=Aks NL hf hb hN ha k
section
variable {P:Program} {G:World→Prop} {o:Oper} {F:Frm} {H:List Ob}
theorem xNE {x:Operand} (ht:TyI P t) (ho:o.op=.binOp .neq t x (.const .nilIface) t':=by with_unfolding_all exact rfl) (hx:F.ev x=.one (.d (.val (Rs E))):=by with_unfolding_all exact rfl) (hb:(E != 0)=b:=by first|exact OX rfl|exact OX (by omega)|exact Hl (by first|assumption|omega)|exact rfl):AZ P G o F H (.one (.d (.val (.bool b)))) []:=BN ho ht hx hb
theorem xNt {x:Operand} (ho:o.op=.unOp .not t x:=by with_unfolding_all exact rfl) (hx:F.ev x=.one (.d (.val (.bool b))):=by with_unfolding_all exact rfl):AZ P G o F H (.one (.d (.val (.bool (!b))))) []:=Ahu ho hx
theorem xNg {x:Operand} {p:Int} (ho:o.op=.unOp .neg t x:=by with_unfolding_all exact rfl) (hx:F.ev x=.one (.d (.val (.int .i64 p))):=by with_unfolding_all exact rfl) (hb : -9223372036854775807≤p∧p≤9223372036854775807:=by omega):AZ P G o F H (.one (.d (.val (.int .i64 (-p))))) []:=Xh ho hx hb
theorem xM1 {x:Operand} {c:C} (ho:o.op=.move x:=by with_unfolding_all exact rfl) (hx:F.ev x=.one c:=by with_unfolding_all exact rfl):AZ P G o F H (.one c) []:=Xn ho hx
theorem xMt {x:Operand} {l:List A} (ho:o.op=.move x:=by with_unfolding_all exact rfl) (hx:F.ev x=.tup l:=by with_unfolding_all exact rfl):AZ P G o F H (.tup l) []:=Xo ho hx
theorem xAl {z:Value} {k by_:Nat} (hz:TyZ P t z k by_) (ho:o.op=.alloc t:=by with_unfolding_all exact rfl):AZ P G o F H (.one (.ref H.length 0 none)) [.box t (ET z.cells.toList)]:=Xj ho hz
end
end Go.Proofs.YtjlkgfeepocjfaaGreatDoor
