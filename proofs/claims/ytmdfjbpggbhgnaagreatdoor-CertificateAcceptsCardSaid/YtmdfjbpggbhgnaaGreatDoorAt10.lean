/- What the proofs of this claim share, part 10. No conditions. -/
import Derived.Test.YtmdfjbpggbhgnaaGreatDoorAt9
import Derived.Test.YtmdfjbpggbhgnaaGreatDoorAt6
import Derived.Test.YtmdfjbpggbhgnaaGreatDoorAt3
import Derived.Defers
import Derived.Recover
import Derived.Deep.RegionHeld3
import Derived.Test.YtmdfjbpggbhgnaaGreatDoorRows
import Derived.Laws.AppendOwnNone
import Derived.Laws.OwnMore
set_option maxRecDepth 100000
set_option maxHeartbeats 4000000
set_option linter.all false
open Go.Proofs.Tryz
namespace Go.Proofs.YtmdfjbpggbhgnaaGreatDoor
open Go.RowKit
variable {E E' e y z:Int} {v:Value} {w:World} {out:List Nat} {fuel i:Nat} {t t':TypeId} {os xs:List Int} {ps:List Prt} {S:Dt} {vs:List Value} {b:Bool}
section
variable {P:Program} {G:World→Prop} {N:Nat}
end
section
variable {P:Program} {G:World→Prop} {o:Oper} {F:Frm} {H:List Ob}
theorem Qp {id:Nat} {ty:TypeId} {ds:List D} (hH:H[id]?=some (.box ty (ds.map C.d))):GH true H (.one (.ref id 0 none)) (.one (.ptr true ds)) :=
 .one (.ref rfl hH (by simp) fun j c d hc hd=>by
  simp only [gr,ag,hd,ck,Option.some.injEq] at hc
  subst hc
  exact .d fun h=>by cases h)
theorem xMf (rs:List (Nat × Nat × Option Nat)) {fn:Fn} {caps:Array Operand} (ho:o.op=.makeFunc fn #[] caps:=by with_unfolding_all exact rfl) (hc:caps.toList.map F.ev=rs.map (fun p=>X.one (.ref p.1 p.2.1 p.2.2)):=by with_unfolding_all exact rfl):AK P G o F H (.one (.clo fn rs)) [] :=
 Ck ho ⟨by have:=congrArg List.length hc;simpa using this,fun j x p hx hp=>by
  have h1:=congrArg (fun l=>l[j]?) hc
  simp only [ag,hx,hp,ck,Option.some.injEq] at h1
  exact h1⟩
theorem xCc {f : FuncId} {fn : Func} {cd : Code} {r : Operand} {xs : Array Operand} {ts : Array TypeId} {rs : List (Nat × Nat × Option Nat)} {l args cargs res : List A} {x : X} (h1 : P.funcs[f]? = some fn) (h : CV P G f l res) (hl : l = args ++ cargs) (h2 : (fn.name == "runtime.NumGoroutine") = false := by kernel_rfl) (h3 : fn.body = some cd := by with_unfolding_all exact rfl)
  (ho:o.op=.call { callee:=.value r,args:=xs,argTypes:=ts }:=by with_unfolding_all exact rfl) (hr:F.ev r=.one (.clo (.func f) rs):=by with_unfolding_all exact rfl)
  (ha:AG (fun x y=>GH true H (F.ev x) y) xs.toList args:=by with_unfolding_all first|((repeat' first|exact Bt rfl rfl|refine AH rfl rfl ?_ ?_|refine Fq rfl rfl ?_|refine Cz rfl rfl ?_|exact Bs rfl (fun h=>by cases h)|exact Gh rfl rfl|exact cexp_e rfl rfl|refine CT rfl rfl rfl ?_) <;> fail)|fail)
  (hcl:AG (fun (p:Nat × Nat × Option Nat) y=>GH true H (.one (.ref p.1 p.2.1 p.2.2)) y) rs cargs:=by with_unfolding_all first|((repeat' first|exact Bt rfl rfl|refine AH rfl rfl ?_ ?_|exact Qp rfl) <;> fail)|fail)
  (hx:Adx res=x:=by with_unfolding_all exact rfl):AK P G o F H x []:=hx ▸ UJ ho hr h1 h2 h3 (hl ▸ h) ha hcl
end
def VK (x:Int) (dx:Nat) (y:Int) (dy:Nat):Int:=sgI (x*2 ^ (max dx dy - dx) - y*2 ^ (max dx dy - dy))
theorem Ft (x:Int) (k:Nat):sgI (x*2 ^ k)=sgI x:=by
 have hp:(0:Int)<2 ^ k:=Int.pow_pos (by decide)
 unfold sgI
 by_cases h:x=0
 ·subst h;simp
 ·have h1:¬ x*2 ^ k=0:=by
   intro h0
   rcases Int.mul_eq_zero.1 h0 with h2|h2
   ·exact h h2
   ·omega
  rw [if_neg h,if_neg h1]
  by_cases h2:x<0
  ·rw [if_pos h2,if_pos (jw h2 hp)]
  ·have:=fq (show 0≤x by omega) (au hp)
   rw [if_neg h2,if_neg (by omega)]
theorem AbR {x:Int} (h:sgI x<sgI y):sgI (x - y) = -1:=by
 have:x<y:=by
  unfold sgI at h
  split at h <;> split at h <;> (try split at h) <;> (try split at h) <;> omega
 unfold sgI
 rw [if_neg (by omega),if_pos (by omega)]
theorem Ahr {x:Int} (h:sgI y<sgI x):sgI (x - y)=1:=by
 have:=AbR h
 have h2:y<x:=by
  unfold sgI at h
  split at h <;> split at h <;> (try split at h) <;> (try split at h) <;> omega
 unfold sgI
 rw [if_neg (by omega),if_neg (by omega)]
theorem Aaa (x:Int):sgI (-x) = -sgI x:=by
 unfold sgI
 by_cases h:x=0
 ·subst h;rfl
 ·by_cases h2:x<0
  ·rw [if_neg (by omega),if_neg (by omega),if_neg h,if_pos h2];rfl
  ·rw [if_neg (by omega),if_pos (by omega),if_neg h,if_neg h2]
theorem TG (x:Int) (k:Nat):((x.natAbs*2 ^ k:Nat):Int)=(if x<0 then -(x*2 ^ k) else x*2 ^ k):=by
 have e:((x.natAbs*2 ^ k:Nat):Int)=(x.natAbs:Int)*2 ^ k:=by simp
 rw [e]
 by_cases h:x<0
 ·rw [if_pos h,show (x.natAbs:Int) = -x by omega,dc]
 ·rw [if_neg h,show (x.natAbs:Int)=x by omega]
theorem Me (x:Int) : -1≤sgI x∧sgI x≤1:=by
 unfold sgI
 split
 ·omega
 ·split <;> omega
theorem AdK {v2:Value} {x:Int} {dx dy lo1 lo2 m:Nat} (D1:DyR w lo1 m v x dx) (D2:DyR w lo2 m v2 y dy) (hm:m≤w.heap.size) (l1:(Aa x.natAbs).length≤50000) (l2:(Aa y.natAbs).length≤50000) :
  Calls prog 56 #[v,v2] w fun e w'=>∃ u1 u2 D,e=.returned (.tuple #[.bool (decide (x<0)),u1,.bool (decide (y<0)),u2,.int .i64 (D:Int)]) ∧
   WdR w' w'.heap.size u1 (x.natAbs*2 ^ (max dx dy - dx))∧WdR w' w'.heap.size u2 (y.natAbs*2 ^ (max dx dy - dy))∧Below w.heap.size w w':=by
 have hd1:=D1.bound.1
 have hd2:=D2.bound.1
 obtain ⟨nb1,A1,L1,c1,rfl,HD1⟩:=D1.form
 obtain ⟨nb2,A2,L2,c2,rfl,HD2⟩:=D2.form
 have b0:Below w.heap.size w ((w.alloc (.cells #[.bool nb1,.slice A1 L1 c1,.int .i64 (dx:Int)] 43)).alloc (.cells #[.bool nb2,.slice A2 L2 c2,.int .i64 (dy:Int)] 43)):=Aq (Aq (ab _ _) _) _
 have r0:=(BG.new_ w [.bool nb1,.slice A1 L1 c1,.int .i64 (dx:Int)] 43).call (al_ _ (.cells #[.bool nb2,.slice A2 L2 c2,.int .i64 (dy:Int)] 43))
 have r1:=BG.new_ (w.alloc (.cells #[.bool nb1,.slice A1 L1 c1,.int .i64 (dx:Int)] 43)) [.bool nb2,.slice A2 L2 c2,.int .i64 (dy:Int)] 43
 rw [show (w.alloc (.cells #[.bool nb1,.slice A1 L1 c1,.int .i64 (dx:Int)] 43)).heap.size=w.heap.size+1 by simp] at r1
 have D1':=ko D1
 have D2':=ko D2
 obtain ⟨D,hD⟩:∃ D:Nat,D=max dx dy:=⟨_,rfl⟩
 have hDD:max (dx:Int) (dy:Int)=(D:Int):=by omega
 obtain ⟨p,hp⟩:∃ p:Nat,p=D - dx:=⟨_,rfl⟩
 obtain ⟨q,hq⟩:∃ q:Nat,q=D - dy:=⟨_,rfl⟩
 have hpp:(D:Int) - (dx:Int)=(p:Int):=by omega
 have hqq:(D:Int) - (dy:Int)=(q:Int):=by omega
 have hp6:p≤1000000:=by omega
 have hq6:q≤1000000:=by omega
 rw [←hD,←hp,←hq]
 clear D1 D2 hD hp hq
 go_enter func56,ntmps56
 go_wp2_with fail
 go_at_call 69
 refine (EL (D1'.out.below b0 hm) (by simp;omega) (by omega)).mono ?_
 rintro e w1 ⟨nb',A',L',c',he,rfl,hb1⟩
 cases he
 have s1:=r1.below hb1 (by simp)
 have b1:=b0.trans (hb1.mono (by simp;omega))
 have k0:w1.cell? ⟨w.heap.size+1,0,none⟩=some (.bool nb2):=s1.cell 0
 have k1:w1.cell? ⟨w.heap.size+1,1,none⟩=some (.slice A2 L2 c2):=s1.cell 1
 have k2:w1.cell? ⟨w.heap.size+1,2,none⟩=some (.int .i64 (dy:Int)):=s1.cell 2
 clear hb1 r0 r1 b0
 go_wp2_with fail
 go_at_call 69
 have hs1:=b1.size
 refine (EL (D2'.out.below b1 hm) (by omega) (by omega)).mono ?_
 rintro e w2 ⟨nb',A',L',c',he,rfl,hb2⟩
 cases he
 have b2:=b1.trans (hb2.mono hs1)
 have X1:=(D1'.out.below b2 hm).words
 have X2:=ko (D2'.out.below b2 hm).words
 clear hb2 b1 k0 k1 k2 s1
 go_wp2_with fail
 go_at_call 70
 have hs2:=b2.size
 refine (RF X1 (by omega) (by omega) hp6).mono ?_
 rintro e w3 ⟨v3,rfl,Y1,hb3⟩
 have b3:=b2.trans (hb3.mono hs2)
 have X2':=X2.out.below hb3 (by omega)
 obtain ⟨A3,L3,c3,rfl⟩:=Y1.form
 clear hb3 b2 X1 X2 hs2 hs1
 go_wp2_with fail
 go_at_call 70
 have hs3:=b3.size
 refine (RF X2' (by omega) (by omega) hq6).mono ?_
 rintro e w4 ⟨v4,rfl,Y2,hb4⟩
 obtain ⟨A4,L4,c4,rfl⟩:=Y2.form
 go_wp2_with fail
 refine bodyPost_ret (v:=.tuple #[.bool nb1,.slice A3 L3 c3,.bool nb2,.slice A4 L4 c4,.int .i64 (D:Int)]) (by simp [results,results56,go_sem]) rfl ⟨.slice A3 L3 c3,.slice A4 L4 c4,D,by rw [HD1.out.1,HD2.out.1],(Y1.below hb4 (aa _)).more hb4.size,Y2,b3.trans (hb4.mono hs3)⟩
theorem Aab {v2:Value} {x:Int} {dx dy lo1 lo2 m:Nat} (D1:DyR w lo1 m v x dx) (D2:DyR w lo2 m v2 y dy) (hm:m≤w.heap.size) (l1:(Aa x.natAbs).length≤50000) (l2:(Aa y.natAbs).length≤50000) :
    Calls prog 15 #[v,v2] w fun e w'=>e=.returned (.int .i64 (VK x dx y dy))∧Below w.heap.size w w':=by
  have hd1:=D1.bound.1
  have hd2:=D2.bound.1
  obtain ⟨nb1,A1,L1,c1,rfl,HD1⟩:=D1.form
  obtain ⟨nb2,A2,L2,c2,rfl,HD2⟩:=D2.form
  have b0:Below w.heap.size w ((w.alloc (.cells #[.bool nb1,.slice A1 L1 c1,.int .i64 (dx:Int)] 43)).alloc (.cells #[.bool nb2,.slice A2 L2 c2,.int .i64 (dy:Int)] 43)):=Aq (Aq (ab _ _) _) _
  have r0:=(BG.new_ w [.bool nb1,.slice A1 L1 c1,.int .i64 (dx:Int)] 43).call (al_ _ (.cells #[.bool nb2,.slice A2 L2 c2,.int .i64 (dy:Int)] 43))
  have r1:=BG.new_ (w.alloc (.cells #[.bool nb1,.slice A1 L1 c1,.int .i64 (dx:Int)] 43)) [.bool nb2,.slice A2 L2 c2,.int .i64 (dy:Int)] 43
  rw [show (w.alloc (.cells #[.bool nb1,.slice A1 L1 c1,.int .i64 (dx:Int)] 43)).heap.size=w.heap.size+1 by simp] at r1
  have D1':=D1.below b0 hm
  have D2':=D2.below b0 hm
  clear D1 D2
  go_enter func15,ntmps15
  go_wp2_with fail
  obtain ⟨W,hW⟩:∃ W,W=((w.alloc (.cells #[.bool nb1,.slice A1 L1 c1,.int .i64 (dx:Int)] 43)).alloc (.cells #[.bool nb2,.slice A2 L2 c2,.int .i64 (dy:Int)] 43)):=⟨_,rfl⟩
  have hWs:W.heap.size=w.heap.size+2:=by rw [hW];simp
  rw [←hW]
  rw [←hW] at b0 D1' D2' r0 r1
  clear hW
  have a0:W.cell? ⟨w.heap.size,0,none⟩=some (.bool nb1):=r0.cell 0
  have a1:W.cell? ⟨w.heap.size,1,none⟩=some (.slice A1 L1 c1):=r0.cell 1
  have a2:W.cell? ⟨w.heap.size,2,none⟩=some (.int .i64 (dx:Int)):=r0.cell 2
  have e0:W.cell? ⟨w.heap.size+1,0,none⟩=some (.bool nb2):=r1.cell 0
  have e1:W.cell? ⟨w.heap.size+1,1,none⟩=some (.slice A2 L2 c2):=r1.cell 1
  have e2:W.cell? ⟨w.heap.size+1,2,none⟩=some (.int .i64 (dy:Int)):=r1.cell 2
  have hz:w.heap.size+2≤W.heap.size:=by omega
  have hle:m≤w.heap.size+2:=by omega
  obtain ⟨sx,hsx⟩:∃ sx,sx=sgI x:=⟨_,rfl⟩
  obtain ⟨sy,hsy⟩:∃ sy,sy=sgI y:=⟨_,rfl⟩
  have HSX:=ko hsx
  have HSY:=ko hsy
  have hrx:=Me x
  have hry:=Me y
  rw [←hsx] at hrx
  rw [←hsy] at hry
  have hc1:∀ u:Nj W (w.heap.size+2),Calls prog 55 #[.agg #[.bool nb1,.slice A1 L1 c1,.int .i64 (dx:Int)]] u.val fun e w'=>e=.returned (.int .i64 sx)∧Below u.val.heap.size u.val w':=fun u=>by
    rw [hsx];exact Wm (D1'.below u.is hle) (lT hle u.fits) (by omega)
  have hc2:∀ u:Nj W (w.heap.size+2),Calls prog 55 #[.agg #[.bool nb2,.slice A2 L2 c2,.int .i64 (dy:Int)]] u.val fun e w'=>e=.returned (.int .i64 sy)∧Below u.val.heap.size u.val w':=fun u=>by
    rw [hsy];exact Wm (D2'.below u.is hle) (lT hle u.fits) (by omega)
  have HC1:=ko hc1
  have HC2:=ko hc2
  clear hsx hsy hc1 hc2 hWs
  refine MT (w.heap.size+2) hz (by kernel_rfl) (by kernel_rfl) ?_
  intro _
  repeat (go_big_quiet_step ((first
    | (go_at_call_of 55 (Value.agg #[.bool nb1,.slice A1 L1 c1,.int .i64 (dx:Int)]);exact GJ (HC1.out _))
    | (go_at_call_of 55 (Value.agg #[.bool nb2,.slice A2 L2 c2,.int .i64 (dy:Int)]);exact GJ (HC2.out _)))))
  refine wpQuiet_nil ?_
  intro w2 hw'
  obtain ⟨⟨_,hb2,hz2⟩,rfl⟩:=hw'
  have s0:=r0.below hb2 (by omega)
  have s1:=r1.below hb2 (by omega)
  have b2:=b0.trans (hb2.mono (by omega))
  replace D1':=D1'.below hb2 hle
  replace D2':=D2'.below hb2 hle
  clear r0 r1 b0 a0 a1 a2 e0 e1 e2 hz hb2 HC1 HC2
  have a0:w2.cell? ⟨w.heap.size,0,none⟩=some (.bool nb1):=s0.cell 0
  have a1:w2.cell? ⟨w.heap.size,1,none⟩=some (.slice A1 L1 c1):=s0.cell 1
  have a2:w2.cell? ⟨w.heap.size,2,none⟩=some (.int .i64 (dx:Int)):=s0.cell 2
  have e0:w2.cell? ⟨w.heap.size+1,0,none⟩=some (.bool nb2):=s1.cell 0
  have e1:w2.cell? ⟨w.heap.size+1,1,none⟩=some (.slice A2 L2 c2):=s1.cell 1
  have e2:w2.cell? ⟨w.heap.size+1,2,none⟩=some (.int .i64 (dy:Int)):=s1.cell 2
  by_cases hne:sx=sy
  · have hnb:(sx != sy)=false:=by rw [hne];simp
    have HNE:=ko hne
    clear hne
    go_wp2_with fail
    go_at_call 56
    refine (AdK D1' D2' (by omega) l1 l2).mono ?_
    rintro e w3 ⟨u1,u2,D,rfl,Y1,Y2,hb3⟩
    have b3:=b2.trans (hb3.mono (by omega))
    obtain ⟨A3,L3,c3,rfl⟩:=Y1.form
    obtain ⟨A4,L4,c4,rfl⟩:=Y2.form
    have hla:(Aa (x.natAbs*2 ^ (max dx dy - dx))).length≤100000:=by
      have:=Bc x.natAbs (max dx dy - dx)
      omega
    have hlb:(Aa (y.natAbs*2 ^ (max dx dy - dy))).length≤100000:=by
      have:=Bc y.natAbs (max dx dy - dy)
      omega
    have HLA:=ko hla
    have HLB:=ko hlb
    have Y1':=ko Y1
    have Y2':=ko Y2
    obtain ⟨cv,hcv⟩:∃ cv,cv=sgI (((x.natAbs*2 ^ (max dx dy - dx):Nat):Int) - ((y.natAbs*2 ^ (max dx dy - dy):Nat):Int)):=⟨_,rfl⟩
    have hcr:=Me (((x.natAbs*2 ^ (max dx dy - dx):Nat):Int) - ((y.natAbs*2 ^ (max dx dy - dy):Nat):Int))
    rw [←hcv] at hcr
    have HCV:=ko hcv
    have hres:VK x dx y dy=if x<0 then -cv else cv:=by
      have hs:(x<0) ↔ (y<0):=by
        have h5:=HNE.out
        rw [HSX.out,HSY.out] at h5
        unfold sgI at h5
        constructor <;> intro h6 <;> (repeat (first|split at h5|omega))
      have hz:(x=0) ↔ (y=0):=by
        have h5:=HNE.out
        rw [HSX.out,HSY.out] at h5
        unfold sgI at h5
        constructor <;> intro h6 <;> (repeat (first|split at h5|omega))
      rw [hcv,TG,TG]
      unfold VK
      by_cases h:x<0
      · rw [if_pos h,if_pos h,if_pos (hs.1 h),←Aaa]
        congr 1
        omega
      · rw [if_neg h,if_neg h,if_neg (fun h2=>h (hs.2 h2))]
    have HRES:=ko hres
    clear hla hlb Y1 Y2 hcv hres hb3 b2
    cases hdx:decide (x<0) with
    | true =>
      have HXN := ko (show x < 0 by simpa using hdx)
      clear hdx
      go_wp2_with (go_at_call 57;refine (Ho Y1'.out Y2'.out HLA.out HLB.out).mono ?_;rintro e w4 ⟨rfl,hb4⟩;rw [←HCV.out])
      go_ret
      exact ⟨by rw [HRES.out,if_pos HXN.out];rfl,b3.trans (hb4.mono (by have:=b3.size;omega))⟩
    | false =>
      have HXN := ko (show ¬ x < 0 by simpa using hdx)
      clear hdx
      go_wp2_with (go_at_call 57;refine (Ho Y1'.out Y2'.out HLA.out HLB.out).mono ?_;rintro e w4 ⟨rfl,hb4⟩;rw [←HCV.out])
      go_ret
      exact ⟨by rw [HRES.out,if_neg (by have:=HXN.out;omega)];rfl,b3.trans (hb4.mono (by have:=b3.size;omega))⟩
  · have hnb:(sx != sy)=true:=by simpa using hne
    by_cases hlt:sx<sy
    · have HV := ko (show VK x dx y dy = -1 by unfold VK; refine AbR ?_; rw [Ft, Ft, ← HSX.out, ← HSY.out]; exact hlt)
      have hltb:decide (sx<sy)=true:=decide_eq_true hlt
      clear hne
      go_wp2_with fail
      go_ret
      exact ⟨by rw [HV.out];rfl,b2⟩
    · have HV := ko (show VK x dx y dy = 1 by unfold VK; refine Ahr ?_; rw [Ft, Ft, ← HSX.out, ← HSY.out]; omega)
      have hltb:decide (sx<sy)=false:=decide_eq_false hlt
      clear hne
      go_wp2_with fail
      go_ret
      exact ⟨by rw [HV.out];rfl,b2⟩
structure Bk where
 kind:Int
 A:Option Addr
 args:List Int
 cap:Nat
 vn:Int
 ve:Int
 un:Int
 ue:Int
def Bk.cells (b:Bk):List Value:=[.int .i64 b.kind,.slice b.A b.args.length b.cap,.int .i64 b.vn,.int .i64 b.ve,.int .i64 b.un,.int .i64 b.ue]
def bk0:Bk:=⟨0,none,[],0,0,0,0,0⟩
def Cy (bs:List Bk) (i:Nat):Int:=(bs[i]?.getD bk0).kind
def TH (bs:List Bk) (i:Nat):List Int:=(bs[i]?.getD bk0).args
def MZ (bs:List Bk) (i:Nat):List Int:=if Cy bs i=0 then [] else TH bs i
theorem Ahs:∀ {l1 l2:List Nat},l1.Nodup→(∀ x∈l1,x∈l2)→l1.length≤l2.length
 | [],_,_,_=>ad _
 | x::l,l2,hn,hs=>by
  have hx:=hs x (by simp)
  have hn':=List.nodup_cons.1 hn
  have:=Ahs (l1:=l) (l2:=l2.erase x) hn'.2 (fun y hy=>(List.mem_erase_of_ne (fun h=>hn'.1 (by rw [←h];exact hy))).2 (hs y (by simp [hy])))
  rw [List.length_erase_of_mem hx] at this
  have hp:0<l2.length:=List.length_pos_of_mem hx
  simp
  omega
/- The order. -/
def Ek (bs:List Bk) (out:List Nat) (j:Nat):Bool:=Cy bs j == 2 || out.contains j
def rdy (bs:List Bk) (out:List Nat) (i:Nat):Bool:=!Ek bs out i && (MZ bs i).all fun a=>Ek bs out a.toNat
def nxt (bs:List Bk) (out:List Nat):Option Nat:=(List.range bs.length).find? (rdy bs out)
def TI (bs:List Bk):Nat→List Nat→List Nat
 | 0,out=>out
 | f+1,out=>match nxt bs out with
  | none=>out
  | some i=>TI bs f (out++[i])
def DT (bs:List Bk):Nat:=((List.range bs.length).filter fun i=>Cy bs i != 2).length
def BS (bs:List Bk):List Nat:=TI bs bs.length []
def Bd (bs:List Bk):List Nat:=(List.range bs.length).filter fun i=>Cy bs i == 2
structure Fu (bs:List Bk) (out:List Nat):Prop where
 nodup:out.Nodup
 mem:∀ j∈out,j<bs.length∧Cy bs j≠2
theorem OO {bs:List Bk} (h:nxt bs out=some i):i<bs.length∧rdy bs out i=true:=by
 have h1:=List.find?_some h
 have h2:=List.mem_of_find?_eq_some h
 exact ⟨by simpa using h2,h1⟩
theorem Fu.nil (bs:List Bk):Fu bs []:=⟨List.nodup_nil,by simp⟩
theorem Fu.push {bs:List Bk} (h:Fu bs out) {i:Nat} (hn:nxt bs out=some i):Fu bs (out++[i]):=by
 obtain ⟨h1,h2⟩:=OO hn
 simp only [rdy,Ek,aj,Bool.not_eq_true',jx,beq_eq_false_iff_ne] at h2
 refine ⟨List.nodup_append.2 ⟨h.nodup,by simp,fun x hx y hy=>?_⟩,fun j hj=>?_⟩
 ·simp at hy
  subst hy
  intro he
  subst he
  have:=h2.1.2
  simp [hx] at this
 ·rcases List.mem_append.1 hj with hj|hj
  ·exact h.mem j hj
  ·simp at hj
   subst hj
   exact ⟨h1,h2.1.1⟩
theorem Fu.le {bs:List Bk} (h:Fu bs out):out.length≤DT bs:=by
 have hs:out ⊆ (List.range bs.length).filter fun i=>Cy bs i != 2:=fun j hj=>by
  have:=h.mem j hj
  simp [this.1,this.2]
 exact Ahs h.nodup hs
theorem Mf (bs:List Bk):DT bs≤bs.length:=by
 unfold DT
 have:=List.length_filter_le (fun i=>Cy bs i != 2) (List.range bs.length)
 simpa using this
theorem Mg {bs:List Bk}:∀ (f:Nat) {out:List Nat},Fu bs out→Fu bs (TI bs f out)
 | 0,_,h=>h
 | f+1,out,h=>by
  unfold TI
  split
  ·exact h
  ·rename_i i hi
   exact Mg f (h.push hi)
theorem Qq {bs:List Bk}:∀ (f g:Nat) {out:List Nat},Fu bs out→DT bs - out.length≤f→f≤g→TI bs f out=TI bs g out
 | 0,g,out,h,hf,_=>by
  have hfull:out.length=DT bs:=by have:=h.le;omega
  cases g with
  | zero=>rfl
  | succ g =>
   show out=match nxt bs out with|none=>out|some i=>TI bs g (out++[i])
   cases hn:nxt bs out with
   | none=>rfl
   | some i =>
    have:=(h.push hn).le
    simp at this
    omega
 | f+1,0,_,_,_,hg=>by omega
 | f+1,g+1,out,h,hf,hg=>by
  show (match nxt bs out with|none=>out|some i=>TI bs f (out++[i]))=match nxt bs out with|none=>out|some i=>TI bs g (out++[i])
  cases hn:nxt bs out with
  | none=>rfl
  | some i=>exact Qq f g (h.push hn) (by simp;omega) (by omega)
/- What a block depends on. -/
def Qr (bs:List Bk) (over:Bool) (i:Nat):List Int:=if Cy bs i=2∧over=false then [] else MZ bs i
def Xb (bs:List Bk):Prop:=∀ i,i<bs.length→∀ a∈MZ bs i,0≤a∧a<(bs.length:Int)
theorem RY {bs:List Bk} {over:Bool} {a:Int} (h:a∈Qr bs over i):a∈MZ bs i:=by
 unfold Qr at h
 split at h
 ·cases h
 ·exact h
/- The document's way: pass after pass. -/
def Bp (k:Int):Int:=if k=1 then 0 else if k=0∨k=2∨k=5∨k=10∨k=6∨k=11 then 1 else if k=3∨k=4∨k=7∨k=8∨k=9 then 2 else -1
def DJ (num ex:Int):Prop := -2147483648<num∧num<2147483648 ∧ -62≤ex∧ex≤30
instance (num ex:Int):Decidable (DJ num ex):=by unfold DJ;infer_instance
def CN (num ex:Int) (used:Bool):Int:=if used=true then (if DJ num ex then 0 else 3) else (if num=0∧ex=0 then 0 else 2)
def Agh (num ex:Int):Int:=num*2 ^ (ex+62).toNat
def Qs (an ae bn be:Int):Int:=sgI (Agh an ae - Agh bn be)
theorem FS {num ex:Int} (h1 : -62≤ex) (h2:ex≤30):(Ad num 0 ex).1*2 ^ 62=Agh num ex*2 ^ (Ad num 0 ex).2:=by
 unfold Ad Agh
 have e:max (-65536) (min ex 65536)=ex:=by omega
 rw [e]
 by_cases h:ex<0
 ·rw [if_pos h]
  obtain ⟨n,hn⟩:∃ n:Nat,ex = -(n:Int):=⟨(-ex).toNat,by omega⟩
  have e1:(-ex).toNat=n:=by omega
  have e2:(ex+62).toNat=62 - n:=by omega
  rw [e1,e2,bj]
  have h3:=ZG num n
  have h4:(2:Int) ^ 62=2 ^ n*2 ^ (62 - n):=by rw [←aw,show n+(62 - n)=62 by omega]
  rw [h4,←ar,h3,ar,ar,ej (2 ^ _) (2 ^ _)]
 ·rw [if_neg h]
  obtain ⟨n,rfl⟩:=Int.eq_ofNat_of_zero_le (show 0≤ex by omega)
  rw [ak,EJ (by omega),show ((n:Int)+62).toNat=n+62 by omega,aw]
  simp [ar]
theorem AdL {an ae bn be:Int} (h1:DJ an ae) (h2:DJ bn be):VK (Ad an 0 ae).1 (Ad an 0 ae).2 (Ad bn 0 be).1 (Ad bn 0 be).2=Qs an ae bn be:=by
 have e1:=FS h1.2.2.1 h1.2.2.2 (num:=an)
 have e2:=FS h2.2.2.1 h2.2.2.2 (num:=bn)
 unfold VK Qs
 revert e1 e2
 generalize Ad an 0 ae=p
 generalize Ad bn 0 be=q
 obtain ⟨x,dx⟩:=p
 obtain ⟨y,dy⟩:=q
 generalize Agh an ae=V1
 generalize Agh bn be=V2
 intro e1 e2
 dsimp only at e1 e2 ⊢
 rw [←Ft _ 62,←Ft (V1 - V2) (max dx dy)]
 congr 1
 have f1:(2:Int) ^ max dx dy=2 ^ dx*2 ^ (max dx dy - dx):=by rw [←aw,show dx+(max dx dy - dx)=max dx dy by omega]
 have f2:(2:Int) ^ max dx dy=2 ^ dy*2 ^ (max dx dy - dy):=by rw [←aw,show dy+(max dx dy - dy)=max dx dy by omega]
 rw [Int.sub_mul,Int.sub_mul]
 congr 1
 ·rw [f1,←ar,←e1,ar,ar,ej (2 ^ _) (2 ^ _)]
 ·rw [f2,←ar,←e2,ar,ar,ej (2 ^ _) (2 ^ _)]
theorem AdM {x:Int} (h:0<x):sgI x=1:=by unfold sgI;rw [if_neg (by omega),if_neg (by omega)]
theorem AdN {x:Int} (h:x<0):sgI x = -1:=by unfold sgI;rw [if_neg (by omega),if_pos h]
theorem Fv (x y:Int):sgI (x - y)=if x<y then -1 else if y<x then 1 else 0:=by
 by_cases h:x<y
 ·rw [if_pos h,AdN (by omega)]
 ·rw [if_neg h]
  by_cases h2:y<x
  ·rw [if_pos h2,AdM (by omega)]
  ·rw [if_neg h2,show x - y=0 by omega];rfl
open Go.Deep
theorem Fw {bs:List Bk} {k:Nat} {x:Bk} (h:bs[k]?=some x):Cy bs k=x.kind:=by simp [Cy,h]
theorem AdO {bs:List Bk} {k:Nat} {x:Bk} (h:bs[k]?=some x):TH bs k=x.args:=by simp [TH,h]
theorem TJ {bs:List Bk} {k:Nat} {x:Bk} (h:bs[k]?=some x):MZ bs k=if x.kind=0 then [] else x.args:=by simp [MZ,Fw h,AdO h]
theorem TK {bs:List Bk} {k:Nat} {x:Bk} {over:Bool} (h:bs[k]?=some x):Qr bs over k=if x.kind=2∧over=false then [] else if x.kind=0 then [] else x.args:=by simp [Qr,Fw h,TJ h]
def Cu (l:List Nat):List Int:=l.map fun n:Nat=>(n:Int)
def fl (p:Nat→Bool) (k:Nat):List Nat:=(List.range k).filter p
theorem AbS {p:Nat→Bool} {k:Nat} (h:p k=true):fl p (k+1)=fl p k++[k]:=by unfold fl;rw [cr,List.filter_append];simp [h]
theorem Aht {p:Nat→Bool} {k:Nat} (h:p k=false):fl p (k+1)=fl p k:=by unfold fl;rw [cr,List.filter_append];simp [h]
theorem Ahu (p:Nat→Bool) (k:Nat):(fl p k).length≤k:=by unfold fl;simpa using List.length_filter_le p (List.range k)
def DG (bs:List Bk) (i:Nat):Bool:=Cy bs i == 2
open Go.ChangeShapes Go.WideShapes Go.ChangeAt Go.Joins
theorem TL {α:Type} {f:α→List Value} {s:Nat} (hf:∀ x,(f x).length=s) (l:List α):(PA f l).length=l.length*s:=by
 induction l with
 | nil=>simp [PA]
 | cons x l ih =>
  simp only [PA,bk,fu,am,hf] at ih ⊢
  rw [ih,bl,Nat.succ_mul,Nat.add_comm]
theorem Aac {cs:List Value} (h:∀ c∈cs,∃z:Int,c=.int .i64 z ∧ -9223372036854775808≤z∧z≤9223372036854775807):∃ zs:List Int,cs=IT zs∧∀ z∈zs,-9223372036854775808≤z∧z≤9223372036854775807:=by
 induction cs with
 | nil=>exact ⟨[],rfl,by simp⟩
 | cons c cs ih =>
  obtain ⟨zs,rfl,hz⟩:=ih (fun c hc=>h c (by simp [hc]))
  obtain ⟨z,rfl,hb⟩:=h c (by simp)
  exact ⟨z::zs,rfl,fun y hy=>by
   rcases List.mem_cons.1 hy with rfl|hy
   ·exact hb
   ·exact hz y hy⟩
section
variable {H:Type} {enc:TypeId × Value→H} {P:Program} {w:World} {spare:Nat→Bool} {held:Bool}
theorem TM {e:TypeId} {fs:Array Field} {cs:List Value} {x:DataW H × List MemPlace} (hs:P.underlying e=some (.struct fs)) (hone:oneCellFields P fs=true) (hint:∀ (i:Nat) (f:Field),fs[i]?=some f→P.underlying f.type=some (.int .i64)) (hC:P.cellsOf e=fs.size)
  (h:DataW.trod enc P w 0 spare held fuel e cs=some x):∃ zs:List Int,cs=IT zs∧zs.length=fs.size∧∀ z∈zs,-9223372036854775808≤z∧z≤9223372036854775807:=by
 obtain ⟨xs,n,_,_,hlen,hxl,hg⟩:=DataW.trod_struct hs h
 obtain ⟨zs,rfl,hz⟩:=Aac (cs:=cs) (fun c hc=>by
  obtain ⟨i,hi⟩:=fb hc
  have hil:i<cs.length:=(gS.1 hi).1
  have hif:i<fs.size:=by omega
  have hf:fs[i]?=some fs[i]:=by simp [hif]
  obtain ⟨o0,k0⟩:=hone_of hone i fs[i] hf
  have hgi:=hg i fs[i] hf
  rw [o0,k0,take1_drop cs i undef hil,gE (by omega)] at hgi
  obtain ⟨z,hz,_,hw⟩:=DataW.trod_int (hint i fs[i] hf) hgi
  have hd:cs.getD i undef=c:=by simp [List.getD,hi]
  rw [hd] at hz
  exact ⟨z,by simpa using hz,bounds_i64 hw⟩)
 exact ⟨zs,rfl,by rw [←Oo,hlen,hC],hz⟩
theorem Ahv {p:Prop} (h:p:=by
 rcases bu b w.heap.size with h|h
 ·exact h
 ·simp [World.cell?,Addr.add,fd h] at h00):p:=h
theorem Qt {α:Type} {f:α→List Value} {s:Nat} (mk:List Int→α) (hmk:∀ zs,zs.length=s→f (mk zs)=IT zs) (hfl:∀ x,(f x).length=s) (hs0:0<s) {t e:TypeId} {fs:Array Field} {fuel:Nat} {v:Value} {x:DataW H × List MemPlace} (ht:P.underlying t=some (.slice e)) (hs:P.underlying e=some (.struct fs)) (hone:oneCellFields P fs=true) (hint:∀ (i:Nat) (f:Field),fs[i]?=some f→P.underlying f.type=some (.int .i64)) (hC:P.cellsOf e=fs.size) (hsz:fs.size=s)
  (h:DataW.trod enc P w 0 spare held fuel t [v]=some x) :
  ∃ (A:Option Addr) (cap:Nat) (l:List α),v=.slice A l.length cap∧(A=none→cap=0)∧l.length≤cap∧l.length≤maxLen∧Aj w w.heap.size A (PA f l)∧(∀ x∈l,∃zs,x=mk zs∧zs.length=s∧∀ z∈zs,-9223372036854775808≤z∧z≤9223372036854775807):=by
 rcases open_slice ht h with ⟨hcs,_⟩|⟨a,len,cap,m,n,D,Pl,hcs,_,hl,hm,hmm,_,hx⟩
 ·exact ⟨none,0,[],by simpa using hcs,fun _=>rfl,aa _,ad _,Aj.nil_,by simp⟩
 ·have hle:len≤m:=by rw [hmm];split <;> omega
  rw [hC,hsz] at hx
  obtain ⟨R,hR⟩:=choose_lt (α:=List Int) (n:=len) (p:=fun i zs=>zs.length=s∧(∀ z∈zs,-9223372036854775808≤z∧z≤9223372036854775807)∧∀ j,j<s→w.cell? (a.add (i*s+j))=(IT zs)[j]?) (fun i hi=>by
   obtain ⟨cs',h1,h2⟩:=hx i (by omega)
   obtain ⟨zs,rfl,hzl,hzb⟩:=TM hs hone hint hC h2
   obtain ⟨_,hlen,hcell⟩:=World.cells?_some h1
   exact ⟨zs,hzl.trans hsz,hzb,fun j hj=>by rw [←add_add];exact hcell j hj⟩)
  refine ⟨some a,cap,(List.range len).map (fun i=>mk (R i)),by simpa using hcs,by simp,by simpa using hl,by simp;omega,fun hne=>?_,?_⟩
  ·have hpos:0<len:=by
    rcases cw len with h0|h0
    ·subst h0;simp [PA] at hne
    ·exact h0
   obtain ⟨b,off,spot⟩:=a
   have h00:=(hR 0 hpos).2.2 0 hs0
   have hz0:(IT (R 0))[0]?=some ((IT (R 0))[0]'(by rw [Oo,(hR 0 hpos).1];exact hs0)):=gE _
   rw [hz0] at h00
   have hspot:spot=none:=by simpa [Addr.add] using World.cell?_spot h00
   subst hspot
   have hb:b<w.heap.size:=by
    exact Ahv
   refine ⟨b,off,rfl,hb,hb,fun j u hu=>?_⟩
   have hjl:j<len*s:=by
    have:=(gS.1 hu).1
    rw [TL hfl] at this
    simpa using this
   have hk:j / s<len:=Nat.div_lt_of_lt_mul (by rw [aq];exact hjl)
   have hr:j % s<s:=ek _ hs0
   have hj:j / s*s+j % s=j:=by rw [aq];exact dh j s
   have hg:((List.range len).map (fun i=>mk (R i)))[j / s]?=some (mk (R (j / s))):=by simp [hk]
   have h1:=Oq hfl hg hr
   rw [hj,hu,hmk _ (hR _ hk).1] at h1
   have h2:=(hR _ hk).2.2 (j % s) hr
   rw [hj,←h1] at h2
   rw [←Go.WideShapes.add_plain]
   exact h2
  ·intro y hy
   obtain ⟨i,hi,rfl⟩:=List.mem_map.1 hy
   have:=hR i (by simpa using hi)
   exact ⟨_,rfl,this.1,this.2.1⟩
theorem GT {e:TypeId} {x:DataW H × List MemPlace} (ht:P.underlying t=some (.slice e)) (he:P.underlying e=some (.int .i64)) (hc:P.cellsOf e=1)
  (h:DataW.trod enc P w 0 spare held fuel t [v]=some x) :
  ∃ (A:Option Addr) (cap:Nat) (zs:List Int),v=.slice A zs.length cap∧(A=none→cap=0)∧zs.length≤cap∧zs.length≤maxLen∧Aj w w.heap.size A (IT zs)∧(∀ z∈zs,-9223372036854775808≤z∧z≤9223372036854775807):=by
 obtain ⟨A,cap,zs,hv,h1,h2,h3,h4⟩:=PF ht he hc h
 refine ⟨A,cap,zs,hv,fun hA=>?_,h1,h2,h3,h4⟩
 subst hA hv
 rcases open_slice ht h with ⟨hcs,_⟩|⟨a,len,cap',m,n,D,Pl,hcs,_⟩
 ·simp at hcs
  exact hcs.2
 ·simp at hcs
end
theorem Dg (l:List Nat):(Cu l).length=l.length:=by simp [Cu]
theorem TN (l:List Nat) (i:Nat):Cu (l++[i])=Cu l++[(i:Int)]:=by simp [Cu]
theorem Xc (bs:List Bk) (out:List Nat) (i:Nat):rdy bs out i=(!Ek bs out i && (MZ bs i).all fun a=>Ek bs out a.toNat):=rfl
structure Hy (bs:List Bk) (out:List Nat):Prop where
 ok:Fu bs out
 more:TI bs bs.length out=BS bs
theorem Hy.nil (bs:List Bk):Hy bs []:=⟨Fu.nil bs,rfl⟩
theorem Hy.push {bs:List Bk} (h:Hy bs out) (hn:nxt bs out=some i):Hy bs (out++[i]):=by
 refine ⟨h.ok.push hn,?_⟩
 have h1:=Qq bs.length (bs.length+1) h.ok (by have:=Mf bs;omega) (by omega)
 rw [←h.more,h1]
 show _=match nxt bs out with|none=>out|some i=>TI bs bs.length (out++[i])
 rw [hn]
theorem Hy.done {bs:List Bk} (h:Hy bs out) (hn:nxt bs out=none):BS bs=out:=by
 rw [←h.more]
 cases hb:bs.length with
 | zero=>rfl
 | succ f =>
  show (match nxt bs out with|none=>out|some i=>TI bs f (out++[i]))=out
  rw [hn]
theorem Hy.full {bs:List Bk} (h:Hy bs out) (hf:DT bs≤out.length):BS bs=out:=by
 refine h.done ?_
 cases hn:nxt bs out with
 | none=>rfl
 | some i =>
  have:=(h.ok.push hn).le
  simp at this
  omega
theorem Hy.lt {bs:List Bk} (h:Hy bs out) (hn:nxt bs out=some i):out.length<DT bs:=by
 have:=(h.ok.push hn).le
 simp at this
 omega
def Agi (bs:List Bk) (out:List Nat) (xs:List Int) (t:Nat):Bool:=(xs.take t).all fun a=>Ek bs out a.toNat
theorem Xd {bs:List Bk} {t:Nat} {a:Int} (h:xs[t]?=some a):Agi bs out xs (t+1)=(Agi bs out xs t && Ek bs out a.toNat):=by
 unfold Agi
 rw [bg,h,List.all_append]
 simp
theorem Aad {bs:List Bk} {t:Nat} (h:xs.length≤t):Agi bs out xs t=xs.all fun a=>Ek bs out a.toNat:=by unfold Agi;rw [ap h]
def EU (bs:List Bk):Int:=if (BS bs).length=DT bs then 0 else 24
def Agj (bs:List Bk):List Int:=if EU bs=0 then Cu (BS bs) else []
def Fe (bs:List Bk) (k:Nat):List Bool:=(List.range bs.length).map fun j=>decide (j<k) && DG bs j
def Ev (bs:List Bk) (out:List Nat):List Bool:=(List.range bs.length).map (Ek bs out)
theorem Qu (bs:List Bk) (k:Nat):(Fe bs k).length=bs.length:=by simp [Fe]
theorem Xe (bs:List Bk) (out:List Nat):(Ev bs out).length=bs.length:=by simp [Ev]
theorem UR (bs:List Bk):Fe bs 0=List.replicate bs.length false:=by
 refine ig (by simp [Fe]) fun i h1 h2=>?_
 simp [Fe]
theorem Xf (bs:List Bk):Fe bs bs.length=Ev bs []:=by
 refine ig (by simp [Fe,Ev]) fun i h1 h2=>?_
 have:i<bs.length:=by rw [Qu] at h1;exact h1
 simp [Fe,Ev,Ek,DG,this]
theorem Xg {bs:List Bk} {k:Nat} (hd:DG bs k=true):(Fe bs k).set k true=Fe bs (k+1):=by
 refine ig (by simp [Fe]) fun i h1 h2=>?_
 rw [List.getElem_set]
 simp only [Fe,jv,List.getElem_range]
 by_cases h:k=i
 ·subst h;simp [hd]
 ·rw [if_neg h]
  congr 1
  exact decide_eq_decide.2 (by omega)
theorem Aae {bs:List Bk} {k:Nat} (hd:DG bs k=false):Fe bs (k+1)=Fe bs k:=by
 refine ig (by simp [Fe]) fun i h1 h2=>?_
 simp only [Fe,jv,List.getElem_range]
 by_cases h:i=k
 ·subst h;simp [hd]
 ·congr 1
  exact decide_eq_decide.2 (by omega)
theorem US (bs:List Bk) (out:List Nat) (p:Nat):Ev bs (out++[p])=(Ev bs out).set p true:=by
 refine ig (by simp [Ev]) fun i h1 h2=>?_
 rw [List.getElem_set]
 simp only [Ev,jv,List.getElem_range,Ek]
 by_cases h:p=i
 ·subst h;simp
 ·have h2:¬ i=p:=fun e=>h e.symm
  simp [h,h2]
def Mh (bs:List Bk) (i:Nat):Bool:=Cy bs i != 2
theorem UT (bs:List Bk):(fl (Mh bs) bs.length).length=DT bs:=rfl
def GU (bs:List Bk) (out:List Nat) (k:Nat):Int:=match (List.range k).find? (rdy bs out) with|none => -1|some p=>(p:Int)
theorem UU (bs:List Bk) (out:List Nat):GU bs out 0 = -1:=rfl
theorem Xh {bs:List Bk} {k:Nat} (hp:GU bs out k<0) (hr:rdy bs out k=true):GU bs out (k+1)=(k:Int):=by
 unfold GU at hp ⊢
 rw [cr,List.find?_append]
 cases h:(List.range k).find? (rdy bs out) with
 | none=>simp [hr]
 | some p=>rw [h] at hp;simp at hp;omega
theorem OP {bs:List Bk} {k:Nat} (h:0≤GU bs out k∨rdy bs out k=false):GU bs out (k+1)=GU bs out k:=by
 unfold GU at h ⊢
 rw [cr,List.find?_append]
 cases hf:(List.range k).find? (rdy bs out) with
 | none =>
  rw [hf] at h
  rcases h with h|h
  ·simp at h
  ·simp [h]
 | some p=>simp
theorem Xi {bs:List Bk} (h:nxt bs out=none):GU bs out bs.length = -1:=by unfold GU;unfold nxt at h;rw [h]
theorem Xj {bs:List Bk} {p:Nat} (h:nxt bs out=some p):GU bs out bs.length=(p:Int):=by unfold GU;unfold nxt at h;rw [h]
theorem Xk {bs:List Bk} {k:Nat} (hd:Ek bs out k=false):rdy bs out k=(Qr bs false k).all fun a=>Ek bs out a.toNat:=by
 rw [Xc,hd]
 have hk:Cy bs k≠2:=by
  unfold Ek at hd
  simp at hd
  exact hd.1
 unfold Qr
 rw [if_neg (fun h=>hk h.1)]
 simp
def MS (n:Nat) (a:Int):Int:=if 0≤a∧a<(n:Int) then 0 else 10
def IM (k:Int):Bool:=k == 11
def PC (k:Int):Bool:=k == 11 || k == 1 || k == 2 || k == 6
def DU (np nb:Nat) (k:Int):Nat:=if k=0 then np else nb
def BK (np nb:Nat) (b:Bk):Int :=
 if Bp b.kind<0 then 7 else if ¬ ((b.args.length:Nat):Int)=Bp b.kind then 11 else if ¬ Ap (b.args.map (MS (DU np nb b.kind)))=0 then 10
 else if ¬ CN b.vn b.ve (PC b.kind)=0 then CN b.vn b.ve (PC b.kind) else if ¬ CN b.un b.ue (IM b.kind)=0 then CN b.un b.ue (IM b.kind)
 else if IM b.kind=true∧0<Qs b.vn b.ve b.un b.ue then 26 else 0
section
variable {np nb:Nat} {b:Bk}
theorem be1 (h:Bp b.kind<0):BK np nb b=7:=if_pos h
theorem be2 (h:¬ Bp b.kind<0) (h2:¬ ((b.args.length:Nat):Int)=Bp b.kind):BK np nb b=11:=by unfold BK;rw [if_neg h,if_pos h2]
theorem be3 (h:¬ Bp b.kind<0) (h2:((b.args.length:Nat):Int)=Bp b.kind) {M:Nat} (hM:DU np nb b.kind=M) (h3:¬ Ap (b.args.map (MS M))=0):BK np nb b=10:=by
 subst hM;unfold BK;rw [if_neg h,if_neg (not_not_intro h2),if_pos h3]
theorem be4 (h:¬ Bp b.kind<0) (h2:((b.args.length:Nat):Int)=Bp b.kind) {M:Nat} (hM:DU np nb b.kind=M) (h3:Ap (b.args.map (MS M))=0) {vu:Bool} (hv:PC b.kind=vu) (h4:¬ CN b.vn b.ve vu=0):BK np nb b=CN b.vn b.ve vu:=by
 subst hM hv;unfold BK;rw [if_neg h,if_neg (not_not_intro h2),if_neg (not_not_intro h3),if_pos h4]
theorem be5 (h:¬ Bp b.kind<0) (h2:((b.args.length:Nat):Int)=Bp b.kind) {M:Nat} (hM:DU np nb b.kind=M) (h3:Ap (b.args.map (MS M))=0) {vu cu:Bool} (hv:PC b.kind=vu) (h4:CN b.vn b.ve vu=0) (hc:IM b.kind=cu)
  (h5:¬ CN b.un b.ue cu=0):BK np nb b=CN b.un b.ue cu:=by
 subst hM hv hc;unfold BK;rw [if_neg h,if_neg (not_not_intro h2),if_neg (not_not_intro h3),if_neg (not_not_intro h4),if_pos h5]
theorem be6 (h:¬ Bp b.kind<0) (h2:((b.args.length:Nat):Int)=Bp b.kind) {M:Nat} (hM:DU np nb b.kind=M) (h3:Ap (b.args.map (MS M))=0) {vu cu:Bool} (hv:PC b.kind=vu) (h4:CN b.vn b.ve vu=0) (hc:IM b.kind=cu)
  (h5:CN b.un b.ue cu=0) (h6:cu=true∧0<Qs b.vn b.ve b.un b.ue):BK np nb b=26:=by
 subst hM hv hc;unfold BK;rw [if_neg h,if_neg (not_not_intro h2),if_neg (not_not_intro h3),if_neg (not_not_intro h4),if_neg (not_not_intro h5),if_pos h6]
theorem be7 (h:¬ Bp b.kind<0) (h2:((b.args.length:Nat):Int)=Bp b.kind) {M:Nat} (hM:DU np nb b.kind=M) (h3:Ap (b.args.map (MS M))=0) {vu cu:Bool} (hv:PC b.kind=vu) (h4:CN b.vn b.ve vu=0) (hc:IM b.kind=cu)
  (h5:CN b.un b.ue cu=0) (h6:¬ (cu=true∧0<Qs b.vn b.ve b.un b.ue)):BK np nb b=0:=by
 subst hM hv hc;unfold BK;rw [if_neg h,if_neg (not_not_intro h2),if_neg (not_not_intro h3),if_neg (not_not_intro h4),if_neg (not_not_intro h5),if_neg h6]
end
theorem RZ {n:Int} (h:CN n e true=0):DJ n e:=by
 unfold CN at h
 rw [if_pos rfl] at h
 by_cases hs:DJ n e
 ·exact hs
 ·rw [if_neg hs] at h;cases h
theorem Xl {args:List Int} {M t:Nat} (hz:args[t]?=some z) (hb:¬ (0≤z∧z<(M:Int))) (hf:Ap ((args.map (MS M)).take t)=0):¬ Ap (args.map (MS M))=0:=by
 rw [VT (k:=t) (e:=10) (by rw [ag,hz];exact congrArg some (if_neg hb)) (by decide) hf]
 decide
theorem Aaf {args:List Int} {M t:Nat} (hz:args[t]?=some z) (hb:0≤z∧z<(M:Int)) (hf:Ap ((args.map (MS M)).take t)=0):Ap ((args.map (MS M)).take (t+1))=0 :=
 VS (by rw [ag,hz];exact congrArg some (if_pos hb)) hf
def Gb (p:Prt):Int:=if -2147483648≤p.lo∧p.lo≤p.hi∧p.hi<2147483648∧0≤p.fr∧p.fr≤30 then 0 else 3
def Fx (ps:List Prt) (bs:List Bk) (os:List Int):Prop:=ps.length≤16∧bs.length≤64∧os.length≤16
def DV (ps:List Prt) (bs:List Bk) (os:List Int):Int:=Ap (ps.map Gb++(bs.map (BK ps.length bs.length)++os.map (MS bs.length)))
instance (ps:List Prt) (bs:List Bk) (os:List Int):Decidable (Fx ps bs os):=by unfold Fx;infer_instance
def AP (ps:List Prt) (bs:List Bk) (os:List Int):Int:=if ¬ Fx ps bs os then 4 else if ¬ DV ps bs os=0 then DV ps bs os else EU bs
theorem CU {l:List Int} (h:Ap l=0):∀ x∈l,x=0:=by
 induction l with
 | nil=>simp
 | cons y l ih =>
  unfold Ap at h
  by_cases hy:y=0
  ·rw [if_pos hy] at h
   intro x hx
   rcases List.mem_cons.1 hx with rfl|hx
   ·exact hy
   ·exact ih h x hx
  ·rw [if_neg hy] at h
   exact absurd h hy
theorem TP {np nb:Nat} {b:Bk} (h:BK np nb b=0):0≤Bp b.kind∧((b.args.length:Nat):Int)=Bp b.kind∧∀ a∈b.args,0≤a∧a<(DU np nb b.kind:Int):=by
 unfold BK at h
 by_cases h1:Bp b.kind<0
 ·rw [if_pos h1] at h;cases h
 ·rw [if_neg h1] at h
  by_cases h2:¬ ((b.args.length:Nat):Int)=Bp b.kind
  ·rw [if_pos h2] at h;cases h
  ·rw [if_neg h2] at h
   by_cases h3:¬ Ap (b.args.map (MS (DU np nb b.kind)))=0
   ·rw [if_pos h3] at h;cases h
   ·refine ⟨by omega,Decidable.of_not_not h2,fun a ha=>?_⟩
    have:=CU (Decidable.of_not_not h3) (MS (DU np nb b.kind) a) (jy ha)
    unfold MS at this
    by_cases h4:0≤a∧a<(DU np nb b.kind:Int)
    ·exact h4
    ·rw [if_neg h4] at this;cases this
theorem Xm {np:Nat} {bs:List Bk} (h:Ap (bs.map (BK np bs.length))=0):Xb bs:=by
 intro i hi a ha
 have hx:=gE hi
 rw [TJ hx] at ha
 by_cases hk:bs[i].kind=0
 ·rw [if_pos hk] at ha;cases ha
 ·rw [if_neg hk] at ha
  have h0:=CU h (BK np bs.length bs[i]) (jy (fe hi))
  have:=(TP h0).2.2 a ha
  unfold DU at this
  rw [if_neg hk] at this
  exact this
section
variable {ps:List Prt} {bs:List Bk} {os:List Int}
theorem de0 (h:¬ Fx ps bs os):AP ps bs os=4:=if_pos h
theorem de1 (h:Fx ps bs os) {e:Int} (h2:DV ps bs os=e) (h3:¬ e=0):AP ps bs os=e:=by subst h2;unfold AP;rw [if_neg (not_not_intro h),if_pos h3]
theorem de2 (h:Fx ps bs os) (h2:DV ps bs os=0):AP ps bs os=EU bs:=by unfold AP;rw [if_neg (not_not_intro h),if_neg (not_not_intro h2)]
theorem pe1 {k:Nat} {p:Prt} (hp:ps[k]?=some p) (he:Gb p=e) (h0:¬ e=0) (hf:Ap ((ps.map Gb).take k)=0):DV ps bs os=e :=
 AbA (pre:=[]) (k:=k) rfl (by rw [ag,hp];exact congrArg some he) h0 hf
theorem pe2 {k:Nat} {b:Bk} (h1:Ap (ps.map Gb)=0) (hp:bs[k]?=some b) (he:BK ps.length bs.length b=e) (h0:¬ e=0) (hf:Ap ((bs.map (BK ps.length bs.length)).take k)=0):DV ps bs os=e :=
 AbA h1 (k:=k) (by rw [ag,hp];exact congrArg some he) h0 hf
theorem pe3 {k:Nat} {o:Int} (h1:Ap (ps.map Gb)=0) (h2:Ap (bs.map (BK ps.length bs.length))=0) (hp:os[k]?=some o) (he:MS bs.length o=e) (h0:¬ e=0) (hf:Ap ((os.map (MS bs.length)).take k)=0):DV ps bs os=e:=by
 unfold DV
 rw [AX,if_pos h1,AX,if_pos h2]
 exact VT (k:=k) (by rw [ag,hp];exact congrArg some he) h0 hf
theorem pe4 (h1:Ap (ps.map Gb)=0) (h2:Ap (bs.map (BK ps.length bs.length))=0) (h3:Ap (os.map (MS bs.length))=0):DV ps bs os=0:=by
 unfold DV
 rw [AX,if_pos h1,AX,if_pos h2,h3]
theorem fs1 {α:Type} {l:List α} {f:α→Int} {k:Nat} {x:α} (hx:l[k]?=some x) (he:f x=0) (hf:Ap ((l.map f).take k)=0):Ap ((l.map f).take (k+1))=0:=VS (by rw [ag,hx];exact congrArg some he) hf
end
theorem Iu {bs:List Bk} (h:AP ps bs os=0):Fx ps bs os∧DV ps bs os=0∧EU bs=0:=by
 unfold AP at h
 by_cases h1:Fx ps bs os
 ·rw [if_neg (not_not_intro h1)] at h
  by_cases h2:DV ps bs os=0
  ·rw [if_neg (not_not_intro h2)] at h
   exact ⟨h1,h2,h⟩
  ·rw [if_pos h2] at h
   exact absurd h h2
 ·rw [if_pos h1] at h;cases h
theorem Xn {bs:List Bk} (h:DV ps bs os=0):Ap (bs.map (BK ps.length bs.length))=0:=by
 unfold DV at h
 rw [AX] at h
 by_cases h1:Ap (ps.map Gb)=0
 ·rw [if_pos h1,AX] at h
  by_cases h2:Ap (bs.map (BK ps.length bs.length))=0
  ·exact h2
  ·rw [if_neg h2] at h;exact h
 ·rw [if_neg h1] at h;exact absurd h h1
theorem AdP {bs:List Bk} (h:AP ps bs os=0):Xb bs:=Xm (Xn (Iu h).2.1)
/- The example, its lists in the blocks from n. -/
set_option maxRecDepth 100000
def ZA (z:Int):Prop := -9223372036854775808≤z∧z≤9223372036854775807
def Ahw (zs:List Int):Prt:=⟨zs.getD 0 0,zs.getD 1 0,zs.getD 2 0⟩
theorem Sa (zs:List Int) (h:zs.length=3):(Ahw zs).cells=IT zs:=by
 match zs,h with
 | [_,_,_],_=>rfl
theorem NN {fs:Array Field} (h:fs.all (fun f=>f.type == 3)=true):∀ (i:Nat) (f:Field),fs[i]?=some f→prog.underlying f.type=some (.int .i64):=by
 intro i f hf
 have hi:=(Array.getElem?_eq_some_iff.1 hf)
 have:=Array.all_eq_true.1 h i hi.1
 rw [hi.2] at this
 have e:f.type=3:=by simpa using this
 rw [e]
 exact underlying3
section
variable {H:Type} {enc:TypeId × Value→H} {w:World} {spare:Nat→Bool} {held:Bool}
def bkB (x:Bk):Prop:=ZA x.kind∧ZA x.vn∧ZA x.ve∧ZA x.un∧ZA x.ue
theorem NP {cs:List Value} {x:DataW H × List MemPlace} (h:DataW.trod enc prog w 0 spare held fuel 61 cs=some x):∃ n e:Int,cs=[.int .i64 n,.int .i64 e]∧ZA n∧ZA e:=by
 obtain ⟨zs,rfl,hl,hz⟩:=TM underlying61 (by kernel_rfl) (NN (by kernel_rfl)) (by kernel_rfl) h
 match zs,hl with
 | [n,e],_=>exact ⟨n,e,rfl,hz _ (by simp),hz _ (by simp)⟩
theorem AdQ {cs:List Value} {x:DataW H × List MemPlace} (h:DataW.trod enc prog w 0 spare held fuel 63 cs=some x) :
  ∃ b:Bk,cs=b.cells∧(b.A=none→b.cap=0)∧b.args.length≤b.cap∧b.args.length≤maxLen∧Aj w w.heap.size b.A (IT b.args)∧(∀ z∈b.args,ZA z)∧bkB b:=by
 obtain ⟨xs,n,_,_,hlen,hxl,hg⟩:=DataW.trod_struct underlying63 h
 have hl6:cs.length=6:=hlen.trans (by kernel_rfl)
 match cs,hl6 with
 | [c0,c1,c2,c3,c4,c5],_ =>
  have k1:prog.cellsOf 3=1:=by kernel_rfl
  have k2:prog.cellsOf 24=1:=by kernel_rfl
  have k3:prog.cellsOf 61=2:=by kernel_rfl
  have hx4:xs.length=4:=hxl
  match xs,hx4 with
  | [x0,x1,x2,x3],_ =>
   have g0:DataW.trod enc prog w 0 spare held n 3 (([c0,c1,c2,c3,c4,c5].drop 0).take (prog.cellsOf 3))=some x0:=hg 0 _ rfl
   have g1:DataW.trod enc prog w 0 spare held n 24 (([c0,c1,c2,c3,c4,c5].drop 1).take (prog.cellsOf 24))=some x1:=hg 1 _ rfl
   have g2:DataW.trod enc prog w 0 spare held n 61 (([c0,c1,c2,c3,c4,c5].drop 2).take (prog.cellsOf 61))=some x2:=hg 2 _ rfl
   have g3:DataW.trod enc prog w 0 spare held n 61 (([c0,c1,c2,c3,c4,c5].drop 4).take (prog.cellsOf 61))=some x3:=hg 3 _ rfl
   rw [k1] at g0
   rw [k2] at g1
   rw [k3] at g2 g3
   obtain ⟨kind,hk,_,hkb⟩:=DataW.trod_int underlying3 g0
   obtain ⟨A,cap,args,ha,hA0,hc1,hc2,hc3,hc4⟩:=GT underlying24 underlying3 (by kernel_rfl) g1
   obtain ⟨vn,ve,hv,b1,b2⟩:=NP g2
   obtain ⟨un,ue,hu,b3,b4⟩:=NP g3
   refine ⟨⟨kind,A,args,cap,vn,ve,un,ue⟩,?_,hA0,hc1,hc2,hc3,hc4,bounds_i64 hkb,b1,b2,b3,b4⟩
   have e0:[c0]=[Value.int .i64 kind]:=hk
   have e2:[c2,c3]=[Value.int .i64 vn,Value.int .i64 ve]:=hv
   have e3:[c4,c5]=[Value.int .i64 un,Value.int .i64 ue]:=hu
   simp only [List.cons.injEq,and_true] at e0 e2 e3
   rw [e0,ha,e2.1,e2.2,e3.1,e3.2]
   rfl
instance:Inhabited Bk:=⟨bk0⟩
theorem Qv {x:DataW H × List MemPlace} (h:DataW.trod enc prog w 0 spare held fuel 23 [v]=some x) :
  ∃ (A:Option Addr) (cap:Nat) (l:List Bk),v=.slice A l.length cap∧l.length≤maxLen∧Aj w w.heap.size A (PA Bk.cells l) ∧
   ∀ b∈l,(b.A=none→b.cap=0)∧b.args.length≤b.cap∧b.args.length≤maxLen∧Aj w w.heap.size b.A (IT b.args)∧(∀ z∈b.args,ZA z)∧bkB b:=by
 rcases open_slice underlying23 h with ⟨hcs,_⟩|⟨a,len,cap,m,n,D,Pl,hcs,_,hl,hm,hmm,_,hx⟩
 ·exact ⟨none,0,[],by simpa using hcs,ad _,Aj.nil_,by simp⟩
 ·have hle:len≤m:=by rw [hmm];split <;> omega
  rw [show prog.cellsOf 63=6 by kernel_rfl] at hx
  obtain ⟨R,hR⟩:=choose_lt (α:=Bk) (n:=len) (p:=fun i b=>((b.A=none→b.cap=0)∧b.args.length≤b.cap∧b.args.length≤maxLen∧Aj w w.heap.size b.A (IT b.args)∧(∀ z∈b.args,ZA z)∧bkB b)∧∀ j,j<6→w.cell? (a.add (i*6+j))=b.cells[j]?) (fun i hi=>by
   obtain ⟨cs',h1,h2⟩:=hx i (by omega)
   obtain ⟨b,rfl,hb⟩:=AdQ h2
   obtain ⟨_,hlen,hcell⟩:=World.cells?_some h1
   exact ⟨b,hb,fun j hj=>by rw [←add_add];exact hcell j hj⟩)
  refine ⟨some a,cap,(List.range len).map R,by simpa using hcs,by simp;omega,fun hne=>?_,?_⟩
  ·have hpos:0<len:=by
    rcases cw len with h0|h0
    ·subst h0;simp [PA] at hne
    ·exact h0
   obtain ⟨b,off,spot⟩:=a
   have h00:=(hR 0 hpos).2 0 (by decide)
   have hz0:(R 0).cells[0]?=some (.int .i64 (R 0).kind):=rfl
   rw [hz0] at h00
   have hspot:spot=none:=by simpa [Addr.add] using World.cell?_spot h00
   subst hspot
   have hb:b<w.heap.size:=by
    exact Ahv
   refine ⟨b,off,rfl,hb,hb,fun j u hu=>?_⟩
   have hjl:j<len*6:=by
    have:=(gS.1 hu).1
    rw [TL (s:=6) (fun _=>rfl)] at this
    simpa using this
   have hk:j / 6<len:=Nat.div_lt_of_lt_mul (by rw [aq];exact hjl)
   have hr:j % 6<6:=ek _ (by decide)
   have hj:j / 6*6+j % 6=j:=by rw [aq];exact dh j 6
   have hg:((List.range len).map R)[j / 6]?=some (R (j / 6)):=by simp [hk]
   have h1:=Oq (f:=Bk.cells) (s:=6) (fun _=>rfl) hg hr
   rw [hj,hu] at h1
   have h2:=(hR _ hk).2 (j % 6) hr
   rw [hj,←h1] at h2
   rw [←Go.WideShapes.add_plain]
   exact h2
  ·intro y hy
   obtain ⟨i,hi,rfl⟩:=List.mem_map.1 hy
   exact (hR i (by simpa using hi)).1
end
/- Light. -/
theorem TQ {α:Type} {p:α→Bool} {l:List α} {k:Nat} {x:α} (hx:l[k]?=some x) (h:(l.take k).all p=true) (hp:p x=true):(l.take (k+1)).all p=true:=by
 rw [bg,hx,List.all_append,h]
 simp [hp]
theorem OQ {xs:List Value} (h:AG (Bf w S) (vs.map .val) xs):xs=vs:=by
 induction vs generalizing xs with
 | nil=>exact h.unnil
 | cons v vs ih =>
  obtain ⟨x,xs',rfl,h1,h2⟩:=(show AG (Bf w S) (D.val v::vs.map .val) xs from h).uncons
  cases h1
  rw [ih h2]
theorem TR (h:∀ v∈vs,v.oneCell'=true):AG (Bf w S) (vs.map .val) vs :=
 ⟨by simp,fun j d v hd hv=>by
  simp only [ag,hv,ck,Option.some.injEq] at hd
  subst hd
  exact .val (h v (gM hv))⟩
theorem Ahx (xs:List Int):xs.map dI=(IT xs).map .val:=by simp [IT,dI]
def Agk (p:Prt):List D:=[dI p.lo,dI p.hi,dI p.fr]
def dBk (t:Bool) (b:Bk):List D:=[dI b.kind,Bw t b.args,dI b.vn,dI b.ve,dI b.un,dI b.ue]
def EP (t:Bool) (ps:List Prt):D:=.row t 3 ps.length (Ay Agk ps)
def Ee (t:Bool) (bs:List Bk):D:=.row t 6 bs.length (Ay (dBk t) bs)
def dDg (t:Bool) (ps:List Prt) (bs:List Bk) (os:List Int):List D:=[EP t ps,Ee t bs,Bw t os]
def aDg (t:Bool) (ps:List Prt) (bs:List Bk) (os:List Int):A:=.agg (dDg t ps bs os)
def aE (n:Int):A:=.one (.val (PB n))
theorem Aag (n:Int):(PB n).oneCell'=true:=by unfold PB;split <;> rfl
theorem UV {α:Type} {f:α→List D} {g:α→List Value} (h:∀ x,f x=(g x).map .val) (l:List α):Ay f l=(PA g l).map .val:=by
 induction l with
 | nil=>rfl
 | cons x l ih =>
  simp only [Ay,PA,bk,fu,gg] at ih ⊢
  rw [ih,h]
theorem Xo (p:Prt):Agk p=(Prt.cells p).map .val:=rfl
structure Ff (ps:List Prt) (bs:List Bk) (os:List Int):Prop where
 l1:ps.length≤1000000
 l2:bs.length≤1000000
 l3:os.length≤1000000
 la:∀ b∈bs,b.args.length≤1000000
theorem Qw (w w':World) (h:Below w.heap.size w w') (ht:Al w):Al w':=ht.call h
theorem OS {x y:A} {a b:Value} (h1:DY w S x a) (h2:DY w S y b):ZL w S [x,y] (.tuple #[a,b]):=⟨[a,b],rfl,.cons_ h1 (.cons_ h2 .nil_)⟩
theorem BZ {x:A} (h:AG (DY w S) [x] vs):∃ v,vs=[v]∧DY w S x v:=by
 obtain ⟨v,vs',rfl,h1,h2⟩:=h.uncons
 rw [h2.unnil]
 exact ⟨v,rfl,h1⟩
theorem El {t:Bool} {bs:List Bk} {k:Nat} {y:Bk} (h:bs[k]?=some y):((Ay (dBk t) bs).drop (k*6)).take 6=dBk t y:=EO (f:=dBk t) (s:=6) (fun _=>rfl) h
theorem NQ {k:Nat} {y:Prt} (h:ps[k]?=some y):((Ay Agk ps).drop (k*3)).take 3=Agk y:=EO (f:=Agk) (s:=3) (fun _=>rfl) h
theorem AY {k:Nat} (h:xs[k]?=some z):((xs.map dI).drop (k*1)).take 1=[dI z]:=AbP h
theorem Ahy (xs:List Int):Da (Bw false xs):=.row fun d hd=>by obtain ⟨z,_,rfl⟩:=List.mem_map.1 hd;exact .val _
theorem Cv {α:Type} {f:α→List D} (hf:∀ x,∀ d∈f x,Da d) (l:List α):∀ d∈Ay f l,Da d:=fun d hd=>by
 obtain ⟨ds,h1,h2⟩:=List.mem_flatten.1 hd
 obtain ⟨x,_,rfl⟩:=List.mem_map.1 h1
 exact hf x d h2
section
variable {P:Program} {G:World→Prop} {o:Oper} {F:Frm} {H:List Ob}
theorem Bh {x:Operand} (ho:o.op=.binOp .neq t x (.const .nilIface) t') (ht:TyI P t) (hx:F.ev x=.one (.d (.val (PB E)))) (hb:(E != 0)=b):AK P G o F H (.one (.d (.val (.bool b)))) []:=by
 by_cases h:E=0
 ·refine OE ho ht hx (.inr (.inl ⟨rfl,?_,?_⟩))
  ·rw [h,AbB]
  ·rw [←hb,Mc h]
 ·refine OE ho ht hx (.inr (.inr (.inr ⟨rfl,⟨_,_,VV h⟩,?_⟩)))
  rw [←hb,Fp h]
theorem Du {x:Operand} (ho:o.op=.binOp .eql t x (.const .nilIface) t') (ht:TyI P t) (hx:F.ev x=.one (.d (.val (PB E)))) (hb:(E == 0)=b):AK P G o F H (.one (.d (.val (.bool b)))) []:=by
 by_cases h:E=0
 ·refine OE ho ht hx (.inl ⟨rfl,?_,?_⟩)
  ·rw [h,AbB]
  ·rw [←hb,Qm h]
 ·refine OE ho ht hx (.inr (.inr (.inl ⟨rfl,⟨_,_,VV h⟩,?_⟩)))
  rw [←hb,RX h]
theorem ZB {t:Tmp} (hF:F t=.one (.d (.val (PB E)))) (hz:E=E'):RV P F H (.tmp t) (aE E'):=.tmp (by rw [hF,hz];exact .one (.d fun _=>.val _))
theorem Fg {t:Tmp} (hF:F t=.one (.d (.val .nilIface))) (hz:E'=0):RV P F H (.tmp t) (aE E'):=.tmp (by rw [hF,hz];exact .one (.d fun _=>.val _))
theorem Aah {t:Tmp} {n:Int} (hF:F t=.one (.d (.val (.iface 109 (.int .i64 n))))) (h0:n≠0) (hz:E'=n):RV P F H (.tmp t) (aE E'):=.tmp (by rw [hF,hz,←VV h0];exact .one (.d fun _=>.val _))
theorem AbT {t:Tmp} {ty ty' id k:Nat} {cs:List C} {ds:List D} {y:A} (hF:F t=.one (.ref id 0 none)) (hH:H[id]?=some (.box ty' cs)) (hk:TyK P ty true k) (hi:cs.length=k) (hy:y=.agg ds) (h:AG (Er false H) cs ds):RV P F H (.cell t ty) y:=by
 obtain ⟨d,h1,h2⟩:=hk.h
 rw [hy]
 exact .cellA hF hH h1 h2 (by rw [hk.s,hi]) h
end
structure Hd9 (p:Prop):Prop where
 o:p
theorem qq {p p':Prop} (k:p') (h:p'→p:=by first|exact qa|exact qb|exact qc|exact qd|exact qe|exact qf|exact qg|exact qh|exact qi|exact qj|exact qk|exact ql rfl|exact qm rfl|exact qn rfl|exact Je):p:=h k
theorem cvz {f:FuncId} {fn:Func} {c:Code} {N:Nat} {args res:List A} (hf:prog.funcs[f]?=some fn) (hN:fn.ntmps=N) (k:CW prog Al N c (F0 args) [] (AkH prog fn res)) (hb:fn.body=some c:=by exact rfl) (ha:args.length≤N:=by exact bi rfl):CV prog Al f args res:=Adz Qw hf hb hN ha k
section
variable {P:Program} {G:World→Prop} {o:Oper} {F:Frm} {H:List Ob}
theorem xNE {x:Operand} (ht:TyI P t) (ho:o.op=.binOp .neq t x (.const .nilIface) t':=by with_unfolding_all exact rfl) (hx:F.ev x=.one (.d (.val (PB E))):=by with_unfolding_all exact rfl) (hb:(E != 0)=b:=by first|exact Mc rfl|exact Mc (by omega)|exact Fp (by first|assumption|omega)|exact rfl):AK P G o F H (.one (.d (.val (.bool b)))) []:=Bh ho ht hx hb
theorem xNt {x:Operand} (ho:o.op=.unOp .not t x:=by with_unfolding_all exact rfl) (hx:F.ev x=.one (.d (.val (.bool b))):=by with_unfolding_all exact rfl):AK P G o F H (.one (.d (.val (.bool (!b))))) []:=AbN ho hx
theorem xNg {x:Operand} {p:Int} (ho:o.op=.unOp .neg t x:=by with_unfolding_all exact rfl) (hx:F.ev x=.one (.d (.val (.int .i64 p))):=by with_unfolding_all exact rfl) (hb : -9223372036854775807≤p∧p≤9223372036854775807:=by omega):AK P G o F H (.one (.d (.val (.int .i64 (-p))))) []:=Tr ho hx hb
theorem xM1 {x:Operand} {c:C} (ho:o.op=.move x:=by with_unfolding_all exact rfl) (hx:F.ev x=.one c:=by with_unfolding_all exact rfl):AK P G o F H (.one c) []:=TA ho hx
theorem xMt {x:Operand} {l:List A} (ho:o.op=.move x:=by with_unfolding_all exact rfl) (hx:F.ev x=.tup l:=by with_unfolding_all exact rfl):AK P G o F H (.tup l) []:=AbQ ho hx
theorem xAl {z:Value} {k by_:Nat} (hz:TyZ P t z k by_) (ho:o.op=.alloc t:=by with_unfolding_all exact rfl):AK P G o F H (.one (.ref H.length 0 none)) [.box t (DF z.cells.toList)]:=ZS ho hz
end
end Go.Proofs.YtmdfjbpggbhgnaaGreatDoor
