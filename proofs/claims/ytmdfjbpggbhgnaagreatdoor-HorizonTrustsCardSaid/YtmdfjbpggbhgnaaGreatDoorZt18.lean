/- What the proofs of this claim share, part 18. No conditions. -/
import Derived.Test.YtmdfjbpggbhgnaaGreatDoorZt17
set_option maxRecDepth 100000
set_option maxHeartbeats 4000000
set_option linter.unusedVariables false
set_option linter.unusedSimpArgs false
set_option linter.unusedSectionVars false
namespace Go.Proofs.YtmdfjbpggbhgnaaGreatDoor
open Go.RowKit
theorem RQ {E:List Pq} {k:Nat} (h:k<E.length):((AN dyP E).drop (k*3)).take 3=dyP (E[k]?.getD (0,0)):=MV (eg_c h)
theorem TE {R:List Iq} {k:Nat} (h:k<R.length):((AN (dIw false) R).drop (k*6)).take 6=dIw false (R[k]?.getD iZ):=Agt (GX h)
theorem IV (R:List Iq) (k:Nat):rG R (k:Int)=R[k]?.getD iZ:=by unfold rG;rw [Int.toNat_natCast]
theorem EG (E:List Pq) (k:Nat):eG E (k:Int)=E[k]?.getD (0,0):=by unfold eG;rw [Int.toNat_natCast]
theorem DM (F:List Int) (k:Nat):sG F (k:Int)=scA F k:=by unfold sG;rw [Int.toNat_natCast]
theorem zdy:([.val (.bool false),.row false 1 0 [],.val (.int .i64 0)]:List D)=dDy false 0 0:=(A.agg.inj Iy).symm
theorem Cj (t u:Bool) (c:Ct) (y:Bk) (k:Nat) {r:Nat} (hk:y.args[k]?=some (r:Int)) (hr:r<c.R.length) (ha:y.args.length≤1000000) (hv:c.R.length≤1000000):CV Tryz.prog Ax 217 [aI (k:Int),.one (.ptr true (dCt u c)),.one (.ptr true (dBk t y))] [aIw false (c.R[r]?.getD iZ)]:=by
 refine cvz Tryz.func217 Tryz.ntmps217 ?_
 have l1:=(List.getElem?_eq_some_iff.1 hk).1
 repeat' (with_reducible first|refine qq ?_|(refine Tx 0 ?_;refine Jn (xAl Ao) ?_)|(refine Ba (id:=1) 9 AK (by kernel_rfl) ?_;dsimp only [List.take,List.drop];refine kF ?_;refine kD ?_;refine kF ?_;refine kD ?_;refine Km ?_;refine Ko (by first|exact xIr Ab (Ak hk)|exact xIr Ab (TE hr)) ?_;refine kD ?_;refine Ko (xIr Af (TE hr)) ?_;refine kA ?_;refine Ke ?_;refine Js (xSk Ag) ?_))
 exact Ap rfl (.cons_ (rvJ Ag rfl) .nil_)
theorem RR (t u:Bool) {ps:List Prt} {bs:List Bk} (os:List Int) (c:Ct) (i:Nat) {y:Bk} (hy:bs[i]?=some y) (B:XD ps bs.length y) (hR:c.R.length=bs.length) (sR:∀ p∈c.R,IwS p LB LB) (hn:bs.length≤1000000) (hpn:ps.length≤1000000):CV Tryz.prog Ax 126 [aDg t ps bs os,.agg (dCt u c),aI (i:Int)] [aB (BP ps c.R y i)]:=by
 refine cvz Tryz.func126 Tryz.ntmps126 ?_
 have hil:=(List.getElem?_eq_some_iff.1 hy).1
 have hBl:=B.len
 have wi:=(Bf sR i).more (show LB≤20000 by decide) (show LB≤20000 by decide)
 have hwi:=TE (R:=c.R) (k:=i) (by omega)
 rcases B.hk with h|h|h|h|h|h|h|h|h|h|h|h
 ·
  obtain ⟨j,pp,hA0,ha0,hp,PS⟩:=B.port h
  have l3:=(List.getElem?_eq_some_iff.1 hp).1
  have hL0:=(List.getElem?_eq_some_iff.1 hA0).1
  have f0:=PS.l0
  have f1:=PS.le
  have f2:=PS.h1
  have f3:=PS.f0
  have f4:=PS.f1
  have IN:=Qz pp.lo pp.hi (by omega) (by omega)
  have UN:=QF pp.fr f3 f4
  have SC:=Gm (De [(pp.lo,0),(pp.hi,0)]) (pw (-pp.fr)) (Ga (GV pp.lo (by omega) (by decide)) (GV pp.hi (by omega) (by decide))).2.2 ((IC f3 f4).more (by decide) (by decide))
  rw [show FZ (De [(pp.lo,0),(pp.hi,0)]) (pw (-pp.fr))=IB pp from PS.scale] at SC
  have hb:El ps c.R y=IB pp:=by unfold El CI;rw [if_neg (by omega),if_pos h,hA0];simp [hp]
  have ws:IwS (IB pp) 20000 20000:=PS.iw.more (by decide) (by decide)
  unfold BP
  rw [hb]
  have IS:=Be _ _ ws wi
  repeat' (with_reducible first|refine qq ?_|(refine Tx 0 ?_;refine Jn xBo ?_;refine Jn xBo ?_;refine Ja ?_)|(refine Tx 1 ?_;refine jF ?_;refine jD ?_;refine Jm ?_;refine Jo (by first|exact xIr Ae (Bo hy)|exact xIr Ae (hwi)) ?_;refine jA ?_;refine Jn (xAl Aw) ?_;refine Js (xSk Au) ?_)|(refine Tx 2 ?_;refine Jo (by first|exact xMf [(1,0,none),(2,0,none)]|exact Ah rfl (by repeat' first|exact AC rfl rfl|refine Ay rfl rfl rfl ?_)) ?_;refine Ja ?_)|(refine Tx 3 ?_;refine Jn (xAl Ao) ?_)|(refine Tx 4 ?_;refine jF ?_;refine jD ?_)|(refine Tx 6 ?_;refine Jo xEq ?_;refine Ja ?_)|(refine Ba (id:=7) 9 AK (by kernel_rfl) ?_;dsimp only [List.take,List.drop];refine kF ?_;refine kD ?_;refine kF ?_;refine kD ?_;refine Ko (by first|exact xIr Ab (hwi)|exact xIr Ab (Ak hA0)) ?_;refine kD ?_;refine Ko (by first|exact xIr CS (hwi)|exact xIr CS (ND hp)) ?_;refine kA ?_;refine Kn (xAl Rd) ?_;refine Ke ?_;refine Js (xSk FM) ?_)|(refine Ba (id:=8) 9 AK (by kernel_rfl) ?_;dsimp only [List.take,List.drop];refine kF ?_;refine kD ?_;refine kF ?_;refine kD ?_;refine Ko (xCl Tryz.func139 (IN)) ?_;refine kF ?_;refine kD ?_;refine Ko (xCl Tryz.func218 (UN)) ?_;refine Ko (xCl Tryz.func138 (SC)) ?_;refine Ke ?_;refine Js (xSk Ag) ?_)|(refine AZ (id:=29) AK (by kernel_rfl) ?_;refine kA ?_;refine kF ?_;refine kD ?_;refine Km ?_;refine Ko (xIr Af (hwi)) ?_;refine kA ?_;refine Ko (xCl Tryz.func151 (IS)) ?_;refine Ka ?_;refine Ke ?_))
  exact Ap rfl (.cons_ (BL rfl (rfl)) .nil_)
 ·
  have hv:=B.sv (by omega)
  have RV:=Ft y.vn y.ve hv
  have sv:=(EA hv).more (show LB≤20000 by decide) (show LB≤20000 by decide)
  have PT:=Dn (Ai y.vn 0 y.ve) sv.ok (Nat.le_trans (sv.lenN 625 (by decide)) (by decide))
  have hb:El ps c.R y=((Ai y.vn 0 y.ve),(Ai y.vn 0 y.ve)):=by unfold El CI Dj;simp [h]
  have ws:IwS (((Ai y.vn 0 y.ve),(Ai y.vn 0 y.ve))) 20000 20000:=by
   have:=Dp (y:=y) (Cb (y:=y) sR) (fun h2=>B.sv (by omega)) (fun h2=>B.su h2) (by omega)
   rw [show Dj y (BX c.R y)=((Ai y.vn 0 y.ve),(Ai y.vn 0 y.ve)) by unfold Dj;simp [h]] at this
   exact this.more (by decide) (by decide)
  unfold BP
  rw [hb]
  have IS:=Be _ _ ws wi
  repeat' (with_reducible first|refine qq ?_|(refine Tx 0 ?_;refine Jn xBo ?_;refine Jn xBo ?_;refine Ja ?_)|(refine Tx 1 ?_;refine jF ?_;refine jD ?_;refine Jm ?_;refine Jo (by first|exact xIr Ae (Bo hy)|exact xIr Ae (hwi)) ?_;refine jA ?_;refine Jn (xAl Aw) ?_;refine Js (xSk Au) ?_)|(refine Tx 2 ?_;refine Jo (by first|exact xMf [(1,0,none),(2,0,none)]|exact Ah rfl (by repeat' first|exact AC rfl rfl|refine Ay rfl rfl rfl ?_)) ?_;refine Ja ?_)|(refine Tx 3 ?_;refine Jn (xAl Ao) ?_)|(refine Tx 4 ?_;refine jF ?_;refine jD ?_)|(refine Tx 6 ?_;refine Jo xEq ?_;refine Ja ?_)|(refine Tx 9 ?_;refine Jo xEq ?_;refine Ja ?_)|(refine Tx 10 ?_;refine jF ?_;refine jA ?_;refine Jo (xCl Tryz.func219 (RV)) ?_;refine Jo (xCl Tryz.func140 (PT)) ?_;refine Js (xSk Ag) ?_)|(refine AZ (id:=29) AK (by kernel_rfl) ?_;refine kA ?_;refine kF ?_;refine kD ?_;refine Km ?_;refine Ko (xIr Af (hwi)) ?_;refine kA ?_;refine Ko (xCl Tryz.func151 (IS)) ?_;refine Ka ?_;refine Ke ?_))
  exact Ap rfl (.cons_ (BL rfl (rfl)) .nil_)
 ·
  obtain ⟨a,hA0,ha0,hl0⟩:=B.a0 (by omega)
  have hl0:=hl0 (by omega)
  have hL0:=(List.getElem?_eq_some_iff.1 hA0).1
  obtain ⟨P,hP⟩:∃ P,c.R[a]?.getD iZ=P:=⟨_,rfl⟩
  have sp:=(Bf sR a).more (show LB≤20000 by decide) (show LB≤20000 by decide)
  have A0:=Cj t u c y 0 hA0 (by omega) (by omega) (by omega)
  have hj0:(BX c.R y)[0]?=some P:=Br (by omega) hA0 (by rw [Int.toNat_natCast,←hP];exact GX (by omega))
  rw [hP] at sp A0
  have hv:=B.sv (by omega)
  have RV:=Ft y.vn y.ve hv
  have sv:=(EA hv).more (show LB≤20000 by decide) (show LB≤20000 by decide)
  have PT:=Dn (Ai y.vn 0 y.ve) sv.ok (Nat.le_trans (sv.lenN 625 (by decide)) (by decide))
  have C:=QA ((Ai y.vn 0 y.ve),(Ai y.vn 0 y.ve)) P (.pt sv) sp
  have hb:El ps c.R y=Qt ((Ai y.vn 0 y.ve),(Ai y.vn 0 y.ve)) P:=by unfold El;rw [if_pos h,ha0,IV,hP]
  have ws:IwS (Qt ((Ai y.vn 0 y.ve),(Ai y.vn 0 y.ve)) P) 20000 20000:=(IwS.pt (EA hv)).hull (hP ▸ Bf sR a) |>.more (show LB≤20000 by decide) (show LB≤20000 by decide)
  unfold BP
  rw [hb]
  have IS:=Be _ _ ws wi
  repeat' (with_reducible first|refine qq ?_|(refine Tx 0 ?_;refine Jn xBo ?_;refine Jn xBo ?_;refine Ja ?_)|(refine Tx 1 ?_;refine jF ?_;refine jD ?_;refine Jm ?_;refine Jo (by first|exact xIr Ae (Bo hy)|exact xIr Ae (hwi)) ?_;refine jA ?_;refine Jn (xAl Aw) ?_;refine Js (xSk Au) ?_)|(refine Tx 2 ?_;refine Jo (by first|exact xMf [(1,0,none),(2,0,none)]|exact Ah rfl (by repeat' first|exact AC rfl rfl|refine Ay rfl rfl rfl ?_)) ?_;refine Ja ?_)|(refine Tx 3 ?_;refine Jn (xAl Ao) ?_)|(refine Tx 4 ?_;refine jF ?_;refine jD ?_)|(refine Tx 6 ?_;refine Jo xEq ?_;refine Ja ?_)|(refine Tx 9 ?_;refine Jo xEq ?_;refine Ja ?_)|(refine Tx 11 ?_;refine Jo xEq ?_;refine Ja ?_)|(refine Tx 12 ?_;refine jF ?_;refine jA ?_;refine Jo (xCl Tryz.func219 (RV)) ?_;refine Jo (xCl Tryz.func140 (PT)) ?_;refine Jm ?_;refine Jo (xCc Tryz.func217 A0 (args:=[_]) rfl) ?_;refine Jo (xCl Tryz.func142 (C)) ?_;refine Js (xSk Ag) ?_)|(refine AZ (id:=29) AK (by kernel_rfl) ?_;refine kA ?_;refine kF ?_;refine kD ?_;refine Km ?_;refine Ko (xIr Af (hwi)) ?_;refine kA ?_;refine Ko (xCl Tryz.func151 (IS)) ?_;refine Ka ?_;refine Ke ?_))
  exact Ap rfl (.cons_ (BL rfl (rfl)) .nil_)
 ·
  obtain ⟨a,hA0,ha0,hl0⟩:=B.a0 (by omega)
  have hl0:=hl0 (by omega)
  have hL0:=(List.getElem?_eq_some_iff.1 hA0).1
  obtain ⟨P,hP⟩:∃ P,c.R[a]?.getD iZ=P:=⟨_,rfl⟩
  have sp:=(Bf sR a).more (show LB≤20000 by decide) (show LB≤20000 by decide)
  have A0:=Cj t u c y 0 hA0 (by omega) (by omega) (by omega)
  have hj0:(BX c.R y)[0]?=some P:=Br (by omega) hA0 (by rw [Int.toNat_natCast,←hP];exact GX (by omega))
  rw [hP] at sp A0
  obtain ⟨b,hA1,ha1,hl1⟩:=B.a1 (by omega)
  have hL1:=(List.getElem?_eq_some_iff.1 hA1).1
  obtain ⟨Q,hQ⟩:∃ Q,c.R[b]?.getD iZ=Q:=⟨_,rfl⟩
  have sq:=(Bf sR b).more (show LB≤20000 by decide) (show LB≤20000 by decide)
  have A1:=Cj t u c y 1 hA1 (by omega) (by omega) (by omega)
  have hj1:(BX c.R y)[1]?=some Q:=Br (by omega) hA1 (by rw [Int.toNat_natCast,←hQ];exact GX (by omega))
  rw [hQ] at sq A1
  have C:=OU P Q sp sq
  have hb:El ps c.R y=Ya P Q:=by unfold El CI Dj;simp [h,hj0,hj1]
  have ws:IwS (Ya P Q) 20000 20000:=by
   have:=Dp (y:=y) (Cb (y:=y) sR) (fun h2=>B.sv (by omega)) (fun h2=>B.su h2) (by omega)
   rw [show Dj y (BX c.R y)=Ya P Q by unfold Dj;simp [h,hj0,hj1]] at this
   exact this.more (by decide) (by decide)
  unfold BP
  rw [hb]
  have IS:=Be _ _ ws wi
  repeat' (with_reducible first|refine qq ?_|(refine Tx 0 ?_;refine Jn xBo ?_;refine Jn xBo ?_;refine Ja ?_)|(refine Tx 1 ?_;refine jF ?_;refine jD ?_;refine Jm ?_;refine Jo (by first|exact xIr Ae (Bo hy)|exact xIr Ae (hwi)) ?_;refine jA ?_;refine Jn (xAl Aw) ?_;refine Js (xSk Au) ?_)|(refine Tx 2 ?_;refine Jo (by first|exact xMf [(1,0,none),(2,0,none)]|exact Ah rfl (by repeat' first|exact AC rfl rfl|refine Ay rfl rfl rfl ?_)) ?_;refine Ja ?_)|(refine Tx 3 ?_;refine Jn (xAl Ao) ?_)|(refine Tx 4 ?_;refine jF ?_;refine jD ?_)|(refine Tx 6 ?_;refine Jo xEq ?_;refine Ja ?_)|(refine Tx 9 ?_;refine Jo xEq ?_;refine Ja ?_)|(refine Tx 11 ?_;refine Jo xEq ?_;refine Ja ?_)|(refine Tx 13 ?_;refine Jo xEq ?_;refine Ja ?_)|(refine Tx 14 ?_;refine Jm ?_;refine Jo (xCc Tryz.func217 A0 (args:=[_]) rfl) ?_;refine Jm ?_;refine Jo (xCc Tryz.func217 A1 (args:=[_]) rfl) ?_;refine Jo (xCl Tryz.func143 (C)) ?_;refine Js (xSk Ag) ?_)|(refine AZ (id:=29) AK (by kernel_rfl) ?_;refine kA ?_;refine kF ?_;refine kD ?_;refine Km ?_;refine Ko (xIr Af (hwi)) ?_;refine kA ?_;refine Ko (xCl Tryz.func151 (IS)) ?_;refine Ka ?_;refine Ke ?_))
  exact Ap rfl (.cons_ (BL rfl (rfl)) .nil_)
 ·
  obtain ⟨a,hA0,ha0,hl0⟩:=B.a0 (by omega)
  have hl0:=hl0 (by omega)
  have hL0:=(List.getElem?_eq_some_iff.1 hA0).1
  obtain ⟨P,hP⟩:∃ P,c.R[a]?.getD iZ=P:=⟨_,rfl⟩
  have sp:=(Bf sR a).more (show LB≤20000 by decide) (show LB≤20000 by decide)
  have A0:=Cj t u c y 0 hA0 (by omega) (by omega) (by omega)
  have hj0:(BX c.R y)[0]?=some P:=Br (by omega) hA0 (by rw [Int.toNat_natCast,←hP];exact GX (by omega))
  rw [hP] at sp A0
  obtain ⟨b,hA1,ha1,hl1⟩:=B.a1 (by omega)
  have hL1:=(List.getElem?_eq_some_iff.1 hA1).1
  obtain ⟨Q,hQ⟩:∃ Q,c.R[b]?.getD iZ=Q:=⟨_,rfl⟩
  have sq:=(Bf sR b).more (show LB≤20000 by decide) (show LB≤20000 by decide)
  have A1:=Cj t u c y 1 hA1 (by omega) (by omega) (by omega)
  have hj1:(BX c.R y)[1]?=some Q:=Br (by omega) hA1 (by rw [Int.toNat_natCast,←hQ];exact GX (by omega))
  rw [hQ] at sq A1
  have C:=TA P Q sp sq
  have hb:El ps c.R y=Zt P Q:=by unfold El CI Dj;simp [h,hj0,hj1]
  have ws:IwS (Zt P Q) 20000 20000:=by
   have:=Dp (y:=y) (Cb (y:=y) sR) (fun h2=>B.sv (by omega)) (fun h2=>B.su h2) (by omega)
   rw [show Dj y (BX c.R y)=Zt P Q by unfold Dj;simp [h,hj0,hj1]] at this
   exact this.more (by decide) (by decide)
  unfold BP
  rw [hb]
  have IS:=Be _ _ ws wi
  repeat' (with_reducible first|refine qq ?_|(refine Tx 0 ?_;refine Jn xBo ?_;refine Jn xBo ?_;refine Ja ?_)|(refine Tx 1 ?_;refine jF ?_;refine jD ?_;refine Jm ?_;refine Jo (by first|exact xIr Ae (Bo hy)|exact xIr Ae (hwi)) ?_;refine jA ?_;refine Jn (xAl Aw) ?_;refine Js (xSk Au) ?_)|(refine Tx 2 ?_;refine Jo (by first|exact xMf [(1,0,none),(2,0,none)]|exact Ah rfl (by repeat' first|exact AC rfl rfl|refine Ay rfl rfl rfl ?_)) ?_;refine Ja ?_)|(refine Tx 3 ?_;refine Jn (xAl Ao) ?_)|(refine Tx 4 ?_;refine jF ?_;refine jD ?_)|(refine Tx 6 ?_;refine Jo xEq ?_;refine Ja ?_)|(refine Tx 9 ?_;refine Jo xEq ?_;refine Ja ?_)|(refine Tx 11 ?_;refine Jo xEq ?_;refine Ja ?_)|(refine Tx 13 ?_;refine Jo xEq ?_;refine Ja ?_)|(refine Tx 15 ?_;refine Jo xEq ?_;refine Ja ?_)|(refine Tx 16 ?_;refine Jm ?_;refine Jo (xCc Tryz.func217 A0 (args:=[_]) rfl) ?_;refine Jm ?_;refine Jo (xCc Tryz.func217 A1 (args:=[_]) rfl) ?_;refine Jo (xCl Tryz.func144 (C)) ?_;refine Js (xSk Ag) ?_)|(refine AZ (id:=29) AK (by kernel_rfl) ?_;refine kA ?_;refine kF ?_;refine kD ?_;refine Km ?_;refine Ko (xIr Af (hwi)) ?_;refine kA ?_;refine Ko (xCl Tryz.func151 (IS)) ?_;refine Ka ?_;refine Ke ?_))
  exact Ap rfl (.cons_ (BL rfl (rfl)) .nil_)
 ·
  obtain ⟨a,hA0,ha0,hl0⟩:=B.a0 (by omega)
  have hl0:=hl0 (by omega)
  have hL0:=(List.getElem?_eq_some_iff.1 hA0).1
  obtain ⟨P,hP⟩:∃ P,c.R[a]?.getD iZ=P:=⟨_,rfl⟩
  have sp:=(Bf sR a).more (show LB≤20000 by decide) (show LB≤20000 by decide)
  have A0:=Cj t u c y 0 hA0 (by omega) (by omega) (by omega)
  have hj0:(BX c.R y)[0]?=some P:=Br (by omega) hA0 (by rw [Int.toNat_natCast,←hP];exact GX (by omega))
  rw [hP] at sp A0
  have C:=OT P sp
  have hb:El ps c.R y=Xi P:=by unfold El CI Dj;simp [h,hj0]
  have ws:IwS (Xi P) 20000 20000:=by
   have:=Dp (y:=y) (Cb (y:=y) sR) (fun h2=>B.sv (by omega)) (fun h2=>B.su h2) (by omega)
   rw [show Dj y (BX c.R y)=Xi P by unfold Dj;simp [h,hj0]] at this
   exact this.more (by decide) (by decide)
  unfold BP
  rw [hb]
  have IS:=Be _ _ ws wi
  repeat' (with_reducible first|refine qq ?_|(refine Tx 0 ?_;refine Jn xBo ?_;refine Jn xBo ?_;refine Ja ?_)|(refine Tx 1 ?_;refine jF ?_;refine jD ?_;refine Jm ?_;refine Jo (by first|exact xIr Ae (Bo hy)|exact xIr Ae (hwi)) ?_;refine jA ?_;refine Jn (xAl Aw) ?_;refine Js (xSk Au) ?_)|(refine Tx 2 ?_;refine Jo (by first|exact xMf [(1,0,none),(2,0,none)]|exact Ah rfl (by repeat' first|exact AC rfl rfl|refine Ay rfl rfl rfl ?_)) ?_;refine Ja ?_)|(refine Tx 3 ?_;refine Jn (xAl Ao) ?_)|(refine Tx 4 ?_;refine jF ?_;refine jD ?_)|(refine Tx 6 ?_;refine Jo xEq ?_;refine Ja ?_)|(refine Tx 9 ?_;refine Jo xEq ?_;refine Ja ?_)|(refine Tx 11 ?_;refine Jo xEq ?_;refine Ja ?_)|(refine Tx 13 ?_;refine Jo xEq ?_;refine Ja ?_)|(refine Tx 15 ?_;refine Jo xEq ?_;refine Ja ?_)|(refine Tx 17 ?_;refine Jo xEq ?_;refine Ja ?_)|(refine Tx 19 ?_;refine Jo xEq ?_;refine Ja ?_)|(refine Tx 20 ?_;refine Jm ?_;refine Jo (xCc Tryz.func217 A0 (args:=[_]) rfl) ?_;refine Jo (xCl Tryz.func146 (C)) ?_;refine Js (xSk Ag) ?_)|(refine AZ (id:=29) AK (by kernel_rfl) ?_;refine kA ?_;refine kF ?_;refine kD ?_;refine Km ?_;refine Ko (xIr Af (hwi)) ?_;refine kA ?_;refine Ko (xCl Tryz.func151 (IS)) ?_;refine Ka ?_;refine Ke ?_))
  exact Ap rfl (.cons_ (BL rfl (rfl)) .nil_)
 ·
  obtain ⟨a,hA0,ha0,hl0⟩:=B.a0 (by omega)
  have hl0:=hl0 (by omega)
  have hL0:=(List.getElem?_eq_some_iff.1 hA0).1
  obtain ⟨P,hP⟩:∃ P,c.R[a]?.getD iZ=P:=⟨_,rfl⟩
  have sp:=(Bf sR a).more (show LB≤20000 by decide) (show LB≤20000 by decide)
  have A0:=Cj t u c y 0 hA0 (by omega) (by omega) (by omega)
  have hj0:(BX c.R y)[0]?=some P:=Br (by omega) hA0 (by rw [Int.toNat_natCast,←hP];exact GX (by omega))
  rw [hP] at sp A0
  have hv:=B.sv (by omega)
  have RV:=Ft y.vn y.ve hv
  have sv:=(EA hv).more (show LB≤20000 by decide) (show LB≤20000 by decide)
  have C:=Gm P (Ai y.vn 0 y.ve) sp sv
  have hb:El ps c.R y=FZ P (Ai y.vn 0 y.ve):=by unfold El CI Dj;simp [h,hj0]
  have ws:IwS (FZ P (Ai y.vn 0 y.ve)) 20000 20000:=by
   have:=Dp (y:=y) (Cb (y:=y) sR) (fun h2=>B.sv (by omega)) (fun h2=>B.su h2) (by omega)
   rw [show Dj y (BX c.R y)=FZ P (Ai y.vn 0 y.ve) by unfold Dj;simp [h,hj0]] at this
   exact this.more (by decide) (by decide)
  unfold BP
  rw [hb]
  have IS:=Be _ _ ws wi
  repeat' (with_reducible first|refine qq ?_|(refine Tx 0 ?_;refine Jn xBo ?_;refine Jn xBo ?_;refine Ja ?_)|(refine Tx 1 ?_;refine jF ?_;refine jD ?_;refine Jm ?_;refine Jo (by first|exact xIr Ae (Bo hy)|exact xIr Ae (hwi)) ?_;refine jA ?_;refine Jn (xAl Aw) ?_;refine Js (xSk Au) ?_)|(refine Tx 2 ?_;refine Jo (by first|exact xMf [(1,0,none),(2,0,none)]|exact Ah rfl (by repeat' first|exact AC rfl rfl|refine Ay rfl rfl rfl ?_)) ?_;refine Ja ?_)|(refine Tx 3 ?_;refine Jn (xAl Ao) ?_)|(refine Tx 4 ?_;refine jF ?_;refine jD ?_)|(refine Tx 6 ?_;refine Jo xEq ?_;refine Ja ?_)|(refine Tx 9 ?_;refine Jo xEq ?_;refine Ja ?_)|(refine Tx 11 ?_;refine Jo xEq ?_;refine Ja ?_)|(refine Tx 13 ?_;refine Jo xEq ?_;refine Ja ?_)|(refine Tx 15 ?_;refine Jo xEq ?_;refine Ja ?_)|(refine Tx 17 ?_;refine Jo xEq ?_;refine Ja ?_)|(refine Tx 19 ?_;refine Jo xEq ?_;refine Ja ?_)|(refine Tx 21 ?_;refine Jo xEq ?_;refine Ja ?_)|(refine Tx 23 ?_;refine Jo xEq ?_;refine Ja ?_)|(refine Ba (id:=24) 6 AK (by kernel_rfl) ?_;dsimp only [List.take,List.drop];refine Km ?_;refine Ko (xCc Tryz.func217 A0 (args:=[_]) rfl) ?_;refine kF ?_;refine kA ?_;refine Ko (xCl Tryz.func219 (RV)) ?_;refine Ko (xCl Tryz.func138 (C)) ?_;refine Ke ?_;refine Js (xSk Ag) ?_)|(refine AZ (id:=29) AK (by kernel_rfl) ?_;refine kA ?_;refine kF ?_;refine kD ?_;refine Km ?_;refine Ko (xIr Af (hwi)) ?_;refine kA ?_;refine Ko (xCl Tryz.func151 (IS)) ?_;refine Ka ?_;refine Ke ?_))
  exact Ap rfl (.cons_ (BL rfl (rfl)) .nil_)
 ·
  obtain ⟨a,hA0,ha0,hl0⟩:=B.a0 (by omega)
  have hl0:=hl0 (by omega)
  have hL0:=(List.getElem?_eq_some_iff.1 hA0).1
  obtain ⟨P,hP⟩:∃ P,c.R[a]?.getD iZ=P:=⟨_,rfl⟩
  have sp:=(Bf sR a).more (show LB≤20000 by decide) (show LB≤20000 by decide)
  have A0:=Cj t u c y 0 hA0 (by omega) (by omega) (by omega)
  have hj0:(BX c.R y)[0]?=some P:=Br (by omega) hA0 (by rw [Int.toNat_natCast,←hP];exact GX (by omega))
  rw [hP] at sp A0
  obtain ⟨b,hA1,ha1,hl1⟩:=B.a1 (by omega)
  have hL1:=(List.getElem?_eq_some_iff.1 hA1).1
  obtain ⟨Q,hQ⟩:∃ Q,c.R[b]?.getD iZ=Q:=⟨_,rfl⟩
  have sq:=(Bf sR b).more (show LB≤20000 by decide) (show LB≤20000 by decide)
  have A1:=Cj t u c y 1 hA1 (by omega) (by omega) (by omega)
  have hj1:(BX c.R y)[1]?=some Q:=Br (by omega) hA1 (by rw [Int.toNat_natCast,←hQ];exact GX (by omega))
  rw [hQ] at sq A1
  have C:=OX P Q sp sq
  have hb:El ps c.R y=Yb P Q:=by unfold El CI Dj;simp [h,hj0,hj1]
  have ws:IwS (Yb P Q) 20000 20000:=by
   have:=Dp (y:=y) (Cb (y:=y) sR) (fun h2=>B.sv (by omega)) (fun h2=>B.su h2) (by omega)
   rw [show Dj y (BX c.R y)=Yb P Q by unfold Dj;simp [h,hj0,hj1]] at this
   exact this.more (by decide) (by decide)
  unfold BP
  rw [hb]
  have IS:=Be _ _ ws wi
  repeat' (with_reducible first|refine qq ?_|(refine Tx 0 ?_;refine Jn xBo ?_;refine Jn xBo ?_;refine Ja ?_)|(refine Tx 1 ?_;refine jF ?_;refine jD ?_;refine Jm ?_;refine Jo (by first|exact xIr Ae (Bo hy)|exact xIr Ae (hwi)) ?_;refine jA ?_;refine Jn (xAl Aw) ?_;refine Js (xSk Au) ?_)|(refine Tx 2 ?_;refine Jo (by first|exact xMf [(1,0,none),(2,0,none)]|exact Ah rfl (by repeat' first|exact AC rfl rfl|refine Ay rfl rfl rfl ?_)) ?_;refine Ja ?_)|(refine Tx 3 ?_;refine Jn (xAl Ao) ?_)|(refine Tx 4 ?_;refine jF ?_;refine jD ?_)|(refine Tx 6 ?_;refine Jo xEq ?_;refine Ja ?_)|(refine Tx 9 ?_;refine Jo xEq ?_;refine Ja ?_)|(refine Tx 11 ?_;refine Jo xEq ?_;refine Ja ?_)|(refine Tx 13 ?_;refine Jo xEq ?_;refine Ja ?_)|(refine Tx 15 ?_;refine Jo xEq ?_;refine Ja ?_)|(refine Tx 17 ?_;refine Jo xEq ?_;refine Ja ?_)|(refine Tx 18 ?_;refine Jm ?_;refine Jo (xCc Tryz.func217 A0 (args:=[_]) rfl) ?_;refine Jm ?_;refine Jo (xCc Tryz.func217 A1 (args:=[_]) rfl) ?_;refine Jo (xCl Tryz.func145 (C)) ?_;refine Js (xSk Ag) ?_)|(refine AZ (id:=29) AK (by kernel_rfl) ?_;refine kA ?_;refine kF ?_;refine kD ?_;refine Km ?_;refine Ko (xIr Af (hwi)) ?_;refine kA ?_;refine Ko (xCl Tryz.func151 (IS)) ?_;refine Ka ?_;refine Ke ?_))
  exact Ap rfl (.cons_ (BL rfl (rfl)) .nil_)
 ·
  obtain ⟨a,hA0,ha0,hl0⟩:=B.a0 (by omega)
  have hl0:=hl0 (by omega)
  have hL0:=(List.getElem?_eq_some_iff.1 hA0).1
  obtain ⟨P,hP⟩:∃ P,c.R[a]?.getD iZ=P:=⟨_,rfl⟩
  have sp:=(Bf sR a).more (show LB≤20000 by decide) (show LB≤20000 by decide)
  have A0:=Cj t u c y 0 hA0 (by omega) (by omega) (by omega)
  have hj0:(BX c.R y)[0]?=some P:=Br (by omega) hA0 (by rw [Int.toNat_natCast,←hP];exact GX (by omega))
  rw [hP] at sp A0
  obtain ⟨b,hA1,ha1,hl1⟩:=B.a1 (by omega)
  have hL1:=(List.getElem?_eq_some_iff.1 hA1).1
  obtain ⟨Q,hQ⟩:∃ Q,c.R[b]?.getD iZ=Q:=⟨_,rfl⟩
  have sq:=(Bf sR b).more (show LB≤20000 by decide) (show LB≤20000 by decide)
  have A1:=Cj t u c y 1 hA1 (by omega) (by omega) (by omega)
  have hj1:(BX c.R y)[1]?=some Q:=Br (by omega) hA1 (by rw [Int.toNat_natCast,←hQ];exact GX (by omega))
  rw [hQ] at sq A1
  have C:=OV P Q sp sq
  have hb:El ps c.R y=Yc P Q:=by unfold El CI Dj;simp [h,hj0,hj1]
  have ws:IwS (Yc P Q) 20000 20000:=by
   have:=Dp (y:=y) (Cb (y:=y) sR) (fun h2=>B.sv (by omega)) (fun h2=>B.su h2) (by omega)
   rw [show Dj y (BX c.R y)=Yc P Q by unfold Dj;simp [h,hj0,hj1]] at this
   exact this.more (by decide) (by decide)
  unfold BP
  rw [hb]
  have IS:=Be _ _ ws wi
  repeat' (with_reducible first|refine qq ?_|(refine Tx 0 ?_;refine Jn xBo ?_;refine Jn xBo ?_;refine Ja ?_)|(refine Tx 1 ?_;refine jF ?_;refine jD ?_;refine Jm ?_;refine Jo (by first|exact xIr Ae (Bo hy)|exact xIr Ae (hwi)) ?_;refine jA ?_;refine Jn (xAl Aw) ?_;refine Js (xSk Au) ?_)|(refine Tx 2 ?_;refine Jo (by first|exact xMf [(1,0,none),(2,0,none)]|exact Ah rfl (by repeat' first|exact AC rfl rfl|refine Ay rfl rfl rfl ?_)) ?_;refine Ja ?_)|(refine Tx 3 ?_;refine Jn (xAl Ao) ?_)|(refine Tx 4 ?_;refine jF ?_;refine jD ?_)|(refine Tx 6 ?_;refine Jo xEq ?_;refine Ja ?_)|(refine Tx 9 ?_;refine Jo xEq ?_;refine Ja ?_)|(refine Tx 11 ?_;refine Jo xEq ?_;refine Ja ?_)|(refine Tx 13 ?_;refine Jo xEq ?_;refine Ja ?_)|(refine Tx 15 ?_;refine Jo xEq ?_;refine Ja ?_)|(refine Tx 17 ?_;refine Jo xEq ?_;refine Ja ?_)|(refine Tx 19 ?_;refine Jo xEq ?_;refine Ja ?_)|(refine Tx 21 ?_;refine Jo xEq ?_;refine Ja ?_)|(refine Tx 23 ?_;refine Jo xEq ?_;refine Ja ?_)|(refine Tx 25 ?_;refine Jo xEq ?_;refine Ja ?_)|(refine Tx 26 ?_;refine Jm ?_;refine Jo (xCc Tryz.func217 A0 (args:=[_]) rfl) ?_;refine Jm ?_;refine Jo (xCc Tryz.func217 A1 (args:=[_]) rfl) ?_;refine Jo (xCl Tryz.func148 (C)) ?_;refine Js (xSk Ag) ?_)|(refine AZ (id:=29) AK (by kernel_rfl) ?_;refine kA ?_;refine kF ?_;refine kD ?_;refine Km ?_;refine Ko (xIr Af (hwi)) ?_;refine kA ?_;refine Ko (xCl Tryz.func151 (IS)) ?_;refine Ka ?_;refine Ke ?_))
  exact Ap rfl (.cons_ (BL rfl (rfl)) .nil_)
 ·
  obtain ⟨a,hA0,ha0,hl0⟩:=B.a0 (by omega)
  have hl0:=hl0 (by omega)
  have hL0:=(List.getElem?_eq_some_iff.1 hA0).1
  obtain ⟨P,hP⟩:∃ P,c.R[a]?.getD iZ=P:=⟨_,rfl⟩
  have sp:=(Bf sR a).more (show LB≤20000 by decide) (show LB≤20000 by decide)
  have A0:=Cj t u c y 0 hA0 (by omega) (by omega) (by omega)
  have hj0:(BX c.R y)[0]?=some P:=Br (by omega) hA0 (by rw [Int.toNat_natCast,←hP];exact GX (by omega))
  rw [hP] at sp A0
  obtain ⟨b,hA1,ha1,hl1⟩:=B.a1 (by omega)
  have hL1:=(List.getElem?_eq_some_iff.1 hA1).1
  obtain ⟨Q,hQ⟩:∃ Q,c.R[b]?.getD iZ=Q:=⟨_,rfl⟩
  have sq:=(Bf sR b).more (show LB≤20000 by decide) (show LB≤20000 by decide)
  have A1:=Cj t u c y 1 hA1 (by omega) (by omega) (by omega)
  have hj1:(BX c.R y)[1]?=some Q:=Br (by omega) hA1 (by rw [Int.toNat_natCast,←hQ];exact GX (by omega))
  rw [hQ] at sq A1
  have C:=OW P Q sp sq
  have hb:El ps c.R y=Xj P Q:=by unfold El CI Dj;simp [h,hj0,hj1]
  have ws:IwS (Xj P Q) 20000 20000:=by
   have:=Dp (y:=y) (Cb (y:=y) sR) (fun h2=>B.sv (by omega)) (fun h2=>B.su h2) (by omega)
   rw [show Dj y (BX c.R y)=Xj P Q by unfold Dj;simp [h,hj0,hj1]] at this
   exact this.more (by decide) (by decide)
  unfold BP
  rw [hb]
  have IS:=Be _ _ ws wi
  repeat' (with_reducible first|refine qq ?_|(refine Tx 0 ?_;refine Jn xBo ?_;refine Jn xBo ?_;refine Ja ?_)|(refine Tx 1 ?_;refine jF ?_;refine jD ?_;refine Jm ?_;refine Jo (by first|exact xIr Ae (Bo hy)|exact xIr Ae (hwi)) ?_;refine jA ?_;refine Jn (xAl Aw) ?_;refine Js (xSk Au) ?_)|(refine Tx 2 ?_;refine Jo (by first|exact xMf [(1,0,none),(2,0,none)]|exact Ah rfl (by repeat' first|exact AC rfl rfl|refine Ay rfl rfl rfl ?_)) ?_;refine Ja ?_)|(refine Tx 3 ?_;refine Jn (xAl Ao) ?_)|(refine Tx 4 ?_;refine jF ?_;refine jD ?_)|(refine Tx 6 ?_;refine Jo xEq ?_;refine Ja ?_)|(refine Tx 9 ?_;refine Jo xEq ?_;refine Ja ?_)|(refine Tx 11 ?_;refine Jo xEq ?_;refine Ja ?_)|(refine Tx 13 ?_;refine Jo xEq ?_;refine Ja ?_)|(refine Tx 15 ?_;refine Jo xEq ?_;refine Ja ?_)|(refine Tx 17 ?_;refine Jo xEq ?_;refine Ja ?_)|(refine Tx 19 ?_;refine Jo xEq ?_;refine Ja ?_)|(refine Tx 21 ?_;refine Jo xEq ?_;refine Ja ?_)|(refine Tx 23 ?_;refine Jo xEq ?_;refine Ja ?_)|(refine Tx 25 ?_;refine Jo xEq ?_;refine Ja ?_)|(refine Tx 27 ?_;refine Jo xEq ?_;refine Ja ?_)|(refine Tx 28 ?_;refine Jm ?_;refine Jo (xCc Tryz.func217 A0 (args:=[_]) rfl) ?_;refine Jm ?_;refine Jo (xCc Tryz.func217 A1 (args:=[_]) rfl) ?_;refine Jo (xCl Tryz.func149 (C)) ?_;refine Js (xSk Ag) ?_)|(refine AZ (id:=29) AK (by kernel_rfl) ?_;refine kA ?_;refine kF ?_;refine kD ?_;refine Km ?_;refine Ko (xIr Af (hwi)) ?_;refine kA ?_;refine Ko (xCl Tryz.func151 (IS)) ?_;refine Ka ?_;refine Ke ?_))
  exact Ap rfl (.cons_ (BL rfl (rfl)) .nil_)
 ·
  obtain ⟨a,hA0,ha0,hl0⟩:=B.a0 (by omega)
  have hl0:=hl0 (by omega)
  have hL0:=(List.getElem?_eq_some_iff.1 hA0).1
  obtain ⟨P,hP⟩:∃ P,c.R[a]?.getD iZ=P:=⟨_,rfl⟩
  have sp:=(Bf sR a).more (show LB≤20000 by decide) (show LB≤20000 by decide)
  have A0:=Cj t u c y 0 hA0 (by omega) (by omega) (by omega)
  have hj0:(BX c.R y)[0]?=some P:=Br (by omega) hA0 (by rw [Int.toNat_natCast,←hP];exact GX (by omega))
  rw [hP] at sp A0
  have C:=OY P sp
  have hb:El ps c.R y=Qu P:=by unfold El CI Dj;simp [h,hj0]
  have ws:IwS (Qu P) 20000 20000:=by
   have:=Dp (y:=y) (Cb (y:=y) sR) (fun h2=>B.sv (by omega)) (fun h2=>B.su h2) (by omega)
   rw [show Dj y (BX c.R y)=Qu P by unfold Dj;simp [h,hj0]] at this
   exact this.more (by decide) (by decide)
  unfold BP
  rw [hb]
  have IS:=Be _ _ ws wi
  repeat' (with_reducible first|refine qq ?_|(refine Tx 0 ?_;refine Jn xBo ?_;refine Jn xBo ?_;refine Ja ?_)|(refine Tx 1 ?_;refine jF ?_;refine jD ?_;refine Jm ?_;refine Jo (by first|exact xIr Ae (Bo hy)|exact xIr Ae (hwi)) ?_;refine jA ?_;refine Jn (xAl Aw) ?_;refine Js (xSk Au) ?_)|(refine Tx 2 ?_;refine Jo (by first|exact xMf [(1,0,none),(2,0,none)]|exact Ah rfl (by repeat' first|exact AC rfl rfl|refine Ay rfl rfl rfl ?_)) ?_;refine Ja ?_)|(refine Tx 3 ?_;refine Jn (xAl Ao) ?_)|(refine Tx 4 ?_;refine jF ?_;refine jD ?_)|(refine Tx 6 ?_;refine Jo xEq ?_;refine Ja ?_)|(refine Tx 9 ?_;refine Jo xEq ?_;refine Ja ?_)|(refine Tx 11 ?_;refine Jo xEq ?_;refine Ja ?_)|(refine Tx 13 ?_;refine Jo xEq ?_;refine Ja ?_)|(refine Tx 15 ?_;refine Jo xEq ?_;refine Ja ?_)|(refine Tx 17 ?_;refine Jo xEq ?_;refine Ja ?_)|(refine Tx 19 ?_;refine Jo xEq ?_;refine Ja ?_)|(refine Tx 21 ?_;refine Jo xEq ?_;refine Ja ?_)|(refine Tx 22 ?_;refine Jm ?_;refine Jo (xCc Tryz.func217 A0 (args:=[_]) rfl) ?_;refine Jo (xCl Tryz.func147 (C)) ?_;refine Js (xSk Ag) ?_)|(refine AZ (id:=29) AK (by kernel_rfl) ?_;refine kA ?_;refine kF ?_;refine kD ?_;refine Km ?_;refine Ko (xIr Af (hwi)) ?_;refine kA ?_;refine Ko (xCl Tryz.func151 (IS)) ?_;refine Ka ?_;refine Ke ?_))
  exact Ap rfl (.cons_ (BL rfl (rfl)) .nil_)
 ·
  obtain ⟨a,hA0,ha0,hl0⟩:=B.a0 (by omega)
  have hl0:=hl0 (by omega)
  have hL0:=(List.getElem?_eq_some_iff.1 hA0).1
  obtain ⟨P,hP⟩:∃ P,c.R[a]?.getD iZ=P:=⟨_,rfl⟩
  have sp:=(Bf sR a).more (show LB≤20000 by decide) (show LB≤20000 by decide)
  have A0:=Cj t u c y 0 hA0 (by omega) (by omega) (by omega)
  have hj0:(BX c.R y)[0]?=some P:=Br (by omega) hA0 (by rw [Int.toNat_natCast,←hP];exact GX (by omega))
  rw [hP] at sp A0
  have hv:=B.sv (by omega)
  have RV:=Ft y.vn y.ve hv
  have sv:=(EA hv).more (show LB≤20000 by decide) (show LB≤20000 by decide)
  have hu:=B.su h
  have RU:=Ft y.un y.ue hu
  have su:=(EA hu).more (show LB≤20000 by decide) (show LB≤20000 by decide)
  have C:=QB P (Ai y.vn 0 y.ve) (Ai y.un 0 y.ue) sp sv su (B.cl h)
  have hb:El ps c.R y=OQ P (Ai y.vn 0 y.ve) (Ai y.un 0 y.ue):=by unfold El CI Dj;simp [h,hj0]
  have ws:IwS (OQ P (Ai y.vn 0 y.ve) (Ai y.un 0 y.ue)) 20000 20000:=by
   have:=Dp (y:=y) (Cb (y:=y) sR) (fun h2=>B.sv (by omega)) (fun h2=>B.su h2) (by omega)
   rw [show Dj y (BX c.R y)=OQ P (Ai y.vn 0 y.ve) (Ai y.un 0 y.ue) by unfold Dj;simp [h,hj0]] at this
   exact this.more (by decide) (by decide)
  unfold BP
  rw [hb]
  have IS:=Be _ _ ws wi
  repeat' (with_reducible first|refine qq ?_|(refine Tx 0 ?_;refine Jn xBo ?_;refine Jn xBo ?_;refine Ja ?_)|(refine Tx 1 ?_;refine jF ?_;refine jD ?_;refine Jm ?_;refine Jo (by first|exact xIr Ae (Bo hy)|exact xIr Ae (hwi)) ?_;refine jA ?_;refine Jn (xAl Aw) ?_;refine Js (xSk Au) ?_)|(refine Tx 2 ?_;refine Jo (by first|exact xMf [(1,0,none),(2,0,none)]|exact Ah rfl (by repeat' first|exact AC rfl rfl|refine Ay rfl rfl rfl ?_)) ?_;refine Ja ?_)|(refine Tx 3 ?_;refine Jn (xAl Ao) ?_)|(refine Tx 4 ?_;refine jF ?_;refine jD ?_)|(refine Tx 6 ?_;refine Jo xEq ?_;refine Ja ?_)|(refine Tx 9 ?_;refine Jo xEq ?_;refine Ja ?_)|(refine Tx 11 ?_;refine Jo xEq ?_;refine Ja ?_)|(refine Tx 13 ?_;refine Jo xEq ?_;refine Ja ?_)|(refine Tx 15 ?_;refine Jo xEq ?_;refine Ja ?_)|(refine Tx 17 ?_;refine Jo xEq ?_;refine Ja ?_)|(refine Tx 19 ?_;refine Jo xEq ?_;refine Ja ?_)|(refine Tx 21 ?_;refine Jo xEq ?_;refine Ja ?_)|(refine Tx 23 ?_;refine Jo xEq ?_;refine Ja ?_)|(refine Tx 25 ?_;refine Jo xEq ?_;refine Ja ?_)|(refine Tx 27 ?_;refine Jo xEq ?_;refine Ja ?_)|(refine Oi (id:=5) 12 [(12,11)] AK (by kernel_rfl) ?_;dsimp only [List.take,List.drop];refine Km ?_;refine Ko (xCc Tryz.func217 A0 (args:=[_]) rfl) ?_;refine kF ?_;refine kA ?_;refine Ko (by first|exact xCl Tryz.func219 (RV)|exact xCl Tryz.func219 (RU)) ?_;refine kF ?_;refine kA ?_;refine Ko (by first|exact xCl Tryz.func219 (RV)|exact xCl Tryz.func219 (RU)) ?_;refine Ko (xCl Tryz.func150 (C)) ?_;refine Ko xMt ?_;refine Ko (by exact FN rfl rfl rfl) ?_;refine Ko xEx ?_;refine Ke ?_;refine Js (xSk Ag) ?_)|(refine AZ (id:=29) AK (by kernel_rfl) ?_;refine kA ?_;refine kF ?_;refine kD ?_;refine Km ?_;refine Ko (xIr Af (hwi)) ?_;refine kA ?_;refine Ko (xCl Tryz.func151 (IS)) ?_;refine Ka ?_;refine Ke ?_))
  exact Ap rfl (.cons_ (BL rfl (rfl)) .nil_)
theorem Ed (t u:Bool) (c:Ct) (E:List Pq) (y:Bk) (s:Int) (s0:0≤s) (s1:s≤30) (sE:∀ p∈E,Sm p LB LB) (k:Nat) {r:Nat} (hk:y.args[k]?=some (r:Int)) (hr:r<c.F.length) (hr2:r<E.length) (ha:y.args.length≤1000000) (hv:c.F.length≤1000000) (hv2:E.length≤1000000):CV Tryz.prog Ax 220 [aI (k:Int),.one (.ptr true (dBk t y)),.one (.ptr true [dI s]),.one (.ptr true (dCt u c)),.one (.ptr true [QE E]),.one (.ptr true (dDy false (pw (-s)).1 (pw (-s)).2))] [aDy false (mvP c.F E s (r:Int)).1 (mvP c.F E s (r:Int)).2]:=by
 refine cvz Tryz.func220 Tryz.ntmps220 ?_
 have l1:=(List.getElem?_eq_some_iff.1 hk).1
 have hFr:=Hc (F:=c.F) (k:=r) (by omega)
 have hEr:=RQ (E:=E) (k:=r) (by omega)
 have sm:=Cz sE r
 obtain ⟨e,he⟩:∃ e,E[r]?.getD (0,0)=e:=⟨_,rfl⟩
 rw [he] at sm hEr
 have um:=IC s0 s1
 have AD:=BZ e.1 e.2 (pw (-s)).1 (pw (-s)).2 sm.ok um.ok (Nat.le_trans (sm.lenN 128 (by decide)) (by decide)) (Nat.le_trans (um.lenN 1 (by decide)) (by decide))
 by_cases h:scA c.F r≤s
 case pos =>
  rw [show mvP c.F E s (r:Int)=e by unfold mvP;rw [DM,if_pos h,EG,he]]
  repeat' (with_reducible first|refine qq ?_|(refine Tx 0 ?_;refine Jn (xAl Aj) ?_)|(refine Tx 1 ?_;refine jF ?_;refine jD ?_;refine Jm ?_;refine Jo (by first|exact xIr Ab (Ak hk)|exact xIr Ab (Ak hFr)|exact xIr Ab (hEr)) ?_;refine jD ?_;refine Ja ?_)|(refine AZ (id:=2) AK (by kernel_rfl) ?_;refine kD ?_;refine kF ?_;refine kD ?_;refine Km ?_;refine Ko (by first|exact xIr Ab (Ak hk)|exact xIr Ab (Ak hFr)|exact xIr Ab (hEr)) ?_;refine kD ?_;refine Ko xGe ?_;refine Ke ?_)|(refine Tx 3 ?_;refine jD ?_;refine Jm ?_;refine Jo (xIr Ac (hEr)) ?_;refine jA ?_;refine Js (xSk Aa) ?_)|(refine Ba (id:=4) 6 AK (by kernel_rfl) ?_;dsimp only [List.take,List.drop];refine kD ?_;refine Km ?_;refine Ko (xIr Ac (hEr)) ?_;refine kA ?_;refine kA ?_;refine Ko (xCl Tryz.func152 (AD)) ?_;refine Ke ?_;refine Js (xSk Aa) ?_))
  exact Ap rfl (.cons_ (rvW Aa rfl) .nil_)
 rw [show mvP c.F E s (r:Int)=DD e (pw (-s)) by unfold mvP;rw [DM,if_neg h,EG,he]]
 repeat' (with_reducible first|refine qq ?_|(refine Tx 0 ?_;refine Jn (xAl Aj) ?_)|(refine Tx 1 ?_;refine jF ?_;refine jD ?_;refine Jm ?_;refine Jo (by first|exact xIr Ab (Ak hk)|exact xIr Ab (Ak hFr)|exact xIr Ab (hEr)) ?_;refine jD ?_;refine Ja ?_)|(refine AZ (id:=2) AK (by kernel_rfl) ?_;refine kD ?_;refine kF ?_;refine kD ?_;refine Km ?_;refine Ko (by first|exact xIr Ab (Ak hk)|exact xIr Ab (Ak hFr)|exact xIr Ab (hEr)) ?_;refine kD ?_;refine Ko xGe ?_;refine Ke ?_)|(refine Tx 3 ?_;refine jD ?_;refine Jm ?_;refine Jo (xIr Ac (hEr)) ?_;refine jA ?_;refine Js (xSk Aa) ?_)|(refine Ba (id:=4) 6 AK (by kernel_rfl) ?_;dsimp only [List.take,List.drop];refine kD ?_;refine Km ?_;refine Ko (xIr Ac (hEr)) ?_;refine kA ?_;refine kA ?_;refine Ko (xCl Tryz.func152 (AD)) ?_;refine Ke ?_;refine Js (xSk Aa) ?_))
 exact Ap rfl (.cons_ (rvW Aa rfl) .nil_)
theorem IG (b:Bool) (s:Int):CV Tryz.prog Ax 221 [aB b,.one (.ptr true (dDy false (pw (-s)).1 (pw (-s)).2))] [aDy false (ixP b s).1 (ixP b s).2]:=by
 refine cvz Tryz.func221 Tryz.ntmps221 ?_
 cases b
 case true =>
  rw [show ixP true s=pw (-s) from rfl]
  repeat' (with_reducible first|refine qq ?_|(refine Tx 0 ?_;refine Jn (xAl Aj) ?_)|(refine Tx 1 ?_;refine Jm ?_)|(refine Tx 2 ?_;refine jA ?_;refine Js (xSk Aa) ?_))
  exact Ap rfl (.cons_ (rvW Aa rfl) .nil_)
 case false =>
  rw [show ixP false s=(0,0) from rfl,Iy]
  repeat' (with_reducible first|refine qq ?_|(refine Tx 0 ?_;refine Jn (xAl Aj) ?_)|(refine Tx 1 ?_;refine Jm ?_)|(refine Tx 3 ?_;refine Jo (by exact BI rfl Ev rfl rfl) ?_;refine Js (xSk Aa) ?_))
  exact Ap rfl (.cons_ (Adl Aa rfl) .nil_)
theorem UA (t u:Bool) {ps:List Prt} {bs:List Bk} (os:List Int) (c:Ct) (E:List Pq) (hE:E.length=bs.length) (sE:∀ p∈E,Sm p LB LB) (i:Nat) {y:Bk} (hy:bs[i]?=some y) (B:XD ps bs.length y) (hF:c.F.length=bs.length) (hR:c.R.length=bs.length) (sR:∀ p∈c.R,IwS p LB LB) (hn:bs.length≤1000000) (hpn:ps.length≤1000000) (hs2:0≤scA c.F i∧scA c.F i≤30) (hsa:y.kind≠0→∀ a∈y.args,0≤sG c.F a∧sG c.F a≤30):CV Tryz.prog Ax 127 [aDg t ps bs os,.agg (dCt u c),.one (QE E),aI (i:Int)] [aDy false (Bd ps c.F c.R E y (scA c.F i)).1 (Bd ps c.F c.R E y (scA c.F i)).2]:=by
 refine cvz Tryz.func127 Tryz.ntmps127 ?_
 have hil:=(List.getElem?_eq_some_iff.1 hy).1
 have hFi:=Hc (F:=c.F) (k:=i) (by omega)
 obtain ⟨s,hs⟩:∃ s,scA c.F i=s:=⟨_,rfl⟩
 rw [hs] at hFi
 have hBl:=B.len
 obtain ⟨s0,s1⟩:=hs2
 rw [hs] at s0 s1
 have UN:=QF s s0 s1
 have um:=IC s0 s1
 rw [hs]
 rcases B.hk with h|h|h|h|h|h|h|h|h|h|h|h
 ·
  obtain ⟨j,pp,hA0,ha0,hp,PS⟩:=B.port h
  have l3:=(List.getElem?_eq_some_iff.1 hp).1
  have hL0:=(List.getElem?_eq_some_iff.1 hA0).1
  rw [show Bd ps c.F c.R E y s=ixP (decide (s<pp.fr)) s by unfold Bd;rw [if_pos h,ha0,Pb hp]]
  have IX:=IG (decide (s<pp.fr)) s
  repeat' (with_reducible first|refine qq ?_|(refine Tx 0 ?_;refine Jn xBo ?_;refine Jn xBo ?_;refine Jn xBo ?_;refine Jn (xAl Aj) ?_)|(refine Tx 1 ?_;refine jF ?_;refine jD ?_;refine Jm ?_;refine Jo (xIr Ae (Bo hy)) ?_;refine jA ?_;refine Jn (xAl Aw) ?_;refine Js (xSk Au) ?_)|(refine Tx 2 ?_;refine jF ?_;refine jD ?_;refine Jm ?_;refine Jo (xIr Ab (Ak hFi)) ?_;refine jD ?_;refine Jn (xAl Bj) ?_;refine Js (by first|exact xS1 Al|exact xSk Al) ?_)|(refine Tx 3 ?_;refine jD ?_;refine Jo (xCl Tryz.func218 (UN)) ?_;refine Jn (xAl Aj) ?_;refine Js (xSk Aa) ?_)|(refine Tx 4 ?_;refine Jo (by first|exact xMf [(4,0,none),(5,0,none),(1,0,none),(2,0,none),(6,0,none)]|exact Ah rfl (by repeat' first|exact AC rfl rfl|refine Ay rfl rfl rfl ?_)) ?_;refine Ja ?_)|(refine Tx 5 ?_;refine Jo (by first|exact xMf [(6,0,none)]|exact Ah rfl (by repeat' first|exact AC rfl rfl|refine Ay rfl rfl rfl ?_)) ?_;refine Ja ?_)|(refine Tx 6 ?_;refine jF ?_;refine jD ?_)|(refine Tx 7 ?_;refine Jo xEq ?_;refine Ja ?_)|(refine Ba (id:=8) 13 AK (by kernel_rfl) ?_;dsimp only [List.take,List.drop];refine Km ?_;refine kD ?_;refine kF ?_;refine kD ?_;refine kF ?_;refine kD ?_;refine Ko (xIr Ab (Ak hA0)) ?_;refine kD ?_;refine Ko (xIr CS (ND hp)) ?_;refine kF ?_;refine kD ?_;refine Ko (by first|exact LV rfl rfl rfl|exact xLt) ?_;refine Ko (xCc Tryz.func221 IX (args:=[_]) rfl) ?_;refine Ke ?_;refine Js (xSk Aa) ?_))
  exact Ap rfl (.cons_ (rvW Aa rfl) .nil_)
 ·
  have WH:=Gp y.vn y.ve s (B.sv (by omega)) s0 s1
  have IX:=IG (!Bl y.vn y.ve s) s
  rw [show Bd ps c.F c.R E y s=ixP (!Bl y.vn y.ve s) s by unfold Bd;rw [if_neg (by omega),if_pos h]]
  repeat' (with_reducible first|refine qq ?_|(refine Tx 0 ?_;refine Jn xBo ?_;refine Jn xBo ?_;refine Jn xBo ?_;refine Jn (xAl Aj) ?_)|(refine Tx 1 ?_;refine jF ?_;refine jD ?_;refine Jm ?_;refine Jo (xIr Ae (Bo hy)) ?_;refine jA ?_;refine Jn (xAl Aw) ?_;refine Js (xSk Au) ?_)|(refine Tx 2 ?_;refine jF ?_;refine jD ?_;refine Jm ?_;refine Jo (xIr Ab (Ak hFi)) ?_;refine jD ?_;refine Jn (xAl Bj) ?_;refine Js (by first|exact xS1 Al|exact xSk Al) ?_)|(refine Tx 3 ?_;refine jD ?_;refine Jo (xCl Tryz.func218 (UN)) ?_;refine Jn (xAl Aj) ?_;refine Js (xSk Aa) ?_)|(refine Tx 4 ?_;refine Jo (by first|exact xMf [(4,0,none),(5,0,none),(1,0,none),(2,0,none),(6,0,none)]|exact Ah rfl (by repeat' first|exact AC rfl rfl|refine Ay rfl rfl rfl ?_)) ?_;refine Ja ?_)|(refine Tx 5 ?_;refine Jo (by first|exact xMf [(6,0,none)]|exact Ah rfl (by repeat' first|exact AC rfl rfl|refine Ay rfl rfl rfl ?_)) ?_;refine Ja ?_)|(refine Tx 6 ?_;refine jF ?_;refine jD ?_)|(refine Tx 7 ?_;refine Jo xEq ?_;refine Ja ?_)|(refine Tx 9 ?_;refine Jo xEq ?_;refine Ja ?_)|(refine Tx 10 ?_;refine Jm ?_;refine jF ?_;refine jA ?_;refine jD ?_;refine Jo (xCl Tryz.func222 (WH)) ?_;refine Jo (by first|exact xNt|exact xNg) ?_;refine Jo (xCc Tryz.func221 IX (args:=[_]) rfl) ?_;refine Js (xSk Aa) ?_))
  exact Ap rfl (.cons_ (rvW Aa rfl) .nil_)
 ·
  obtain ⟨a,hA0,ha0,hl0⟩:=B.a0 (by omega)
  have hl0:=hl0 (by omega)
  have hL0:=(List.getElem?_eq_some_iff.1 hA0).1
  have M0:=Ed t u c E y s s0 s1 sE 0 hA0 (by omega) (by omega) (by omega) (by omega) (by omega)
  obtain ⟨m0,hm0⟩:∃ m,mvP c.F E s (a:Int)=m:=⟨_,rfl⟩
  have t0:=DF (F:=c.F) s0 s1 sE (a:Int)
  rw [hm0] at M0 t0
  have WH:=Gp y.vn y.ve s (B.sv (by omega)) s0 s1
  have ib:=Hz (b:=(!Bl y.vn y.ve s)) s0 s1
  have IX:=IG (!Bl y.vn y.ve s) s
  have C:=DB m0.1 m0.2 (ixP (!Bl y.vn y.ve s) s).1 (ixP (!Bl y.vn y.ve s) s).2 t0.ok ib.ok (Nat.le_trans (t0.lenN 257 (by decide)) (by decide)) (Nat.le_trans (ib.lenN 1 (by decide)) (by decide))
  rw [show Bd ps c.F c.R E y s=FY m0 (ixP (!Bl y.vn y.ve s) s) by unfold Bd;rw [if_neg (by omega),if_neg (by omega),if_neg (by omega),if_neg (by omega),if_neg (by omega),if_neg (by omega),if_neg (by omega),if_neg (by omega),ha0,hm0]]
  repeat' (with_reducible first|refine qq ?_|(refine Tx 0 ?_;refine Jn xBo ?_;refine Jn xBo ?_;refine Jn xBo ?_;refine Jn (xAl Aj) ?_)|(refine Tx 1 ?_;refine jF ?_;refine jD ?_;refine Jm ?_;refine Jo (xIr Ae (Bo hy)) ?_;refine jA ?_;refine Jn (xAl Aw) ?_;refine Js (xSk Au) ?_)|(refine Tx 2 ?_;refine jF ?_;refine jD ?_;refine Jm ?_;refine Jo (xIr Ab (Ak hFi)) ?_;refine jD ?_;refine Jn (xAl Bj) ?_;refine Js (by first|exact xS1 Al|exact xSk Al) ?_)|(refine Tx 3 ?_;refine jD ?_;refine Jo (xCl Tryz.func218 (UN)) ?_;refine Jn (xAl Aj) ?_;refine Js (xSk Aa) ?_)|(refine Tx 4 ?_;refine Jo (by first|exact xMf [(4,0,none),(5,0,none),(1,0,none),(2,0,none),(6,0,none)]|exact Ah rfl (by repeat' first|exact AC rfl rfl|refine Ay rfl rfl rfl ?_)) ?_;refine Ja ?_)|(refine Tx 5 ?_;refine Jo (by first|exact xMf [(6,0,none)]|exact Ah rfl (by repeat' first|exact AC rfl rfl|refine Ay rfl rfl rfl ?_)) ?_;refine Ja ?_)|(refine Tx 6 ?_;refine jF ?_;refine jD ?_)|(refine Tx 7 ?_;refine Jo xEq ?_;refine Ja ?_)|(refine Tx 9 ?_;refine Jo xEq ?_;refine Ja ?_)|(refine Tx 11 ?_;refine Jo xEq ?_;refine Ja ?_)|(refine Tx 12 ?_;refine Jo xEq ?_;refine Ja ?_)|(refine Tx 14 ?_;refine Jo xEq ?_;refine Ja ?_)|(refine Tx 15 ?_;refine Jo xEq ?_;refine Ja ?_)|(refine Tx 17 ?_;refine Jo xEq ?_;refine Ja ?_)|(refine Tx 18 ?_;refine Jo xEq ?_;refine Ja ?_)|(refine Tx 20 ?_;refine Jo xEq ?_;refine Ja ?_)|(refine Tx 22 ?_;refine Jo xEq ?_;refine Ja ?_)|(refine Tx 26 ?_;refine Jo xEq ?_;refine Ja ?_)|(refine Ba (id:=28) 10 AK (by kernel_rfl) ?_;dsimp only [List.take,List.drop];refine Km ?_;refine Ko (xCc Tryz.func220 M0 (args:=[_]) rfl) ?_;refine Km ?_;refine kF ?_;refine kA ?_;refine kD ?_;refine Ko (xCl Tryz.func222 (WH)) ?_;refine Ko (by first|exact xNt|exact xNg) ?_;refine Ko (xCc Tryz.func221 IX (args:=[_]) rfl) ?_;refine Ko (xCl Tryz.func156 (C)) ?_;refine Ke ?_;refine Js (xSk Aa) ?_))
  exact Ap rfl (.cons_ (rvW Aa rfl) .nil_)
 ·
  obtain ⟨a,hA0,ha0,hl0⟩:=B.a0 (by omega)
  have hl0:=hl0 (by omega)
  have hL0:=(List.getElem?_eq_some_iff.1 hA0).1
  obtain ⟨b,hA1,ha1,hl1⟩:=B.a1 (by omega)
  have hL1:=(List.getElem?_eq_some_iff.1 hA1).1
  have M0:=Ed t u c E y s s0 s1 sE 0 hA0 (by omega) (by omega) (by omega) (by omega) (by omega)
  obtain ⟨m0,hm0⟩:∃ m,mvP c.F E s (a:Int)=m:=⟨_,rfl⟩
  have t0:=DF (F:=c.F) s0 s1 sE (a:Int)
  rw [hm0] at M0 t0
  have M1:=Ed t u c E y s s0 s1 sE 1 hA1 (by omega) (by omega) (by omega) (by omega) (by omega)
  obtain ⟨m1,hm1⟩:∃ m,mvP c.F E s (b:Int)=m:=⟨_,rfl⟩
  have t1:=DF (F:=c.F) s0 s1 sE (b:Int)
  rw [hm1] at M1 t1
  have C:=BZ m0.1 m0.2 m1.1 m1.2 t0.ok t1.ok (Nat.le_trans (t0.lenN 257 (by decide)) (by decide)) (Nat.le_trans (t1.lenN 257 (by decide)) (by decide))
  rw [show Bd ps c.F c.R E y s=DD m0 m1 by unfold Bd;rw [if_neg (by omega),if_neg (by omega),if_pos (by omega),ha0,ha1,hm0,hm1]]
  repeat' (with_reducible first|refine qq ?_|(refine Tx 0 ?_;refine Jn xBo ?_;refine Jn xBo ?_;refine Jn xBo ?_;refine Jn (xAl Aj) ?_)|(refine Tx 1 ?_;refine jF ?_;refine jD ?_;refine Jm ?_;refine Jo (xIr Ae (Bo hy)) ?_;refine jA ?_;refine Jn (xAl Aw) ?_;refine Js (xSk Au) ?_)|(refine Tx 2 ?_;refine jF ?_;refine jD ?_;refine Jm ?_;refine Jo (xIr Ab (Ak hFi)) ?_;refine jD ?_;refine Jn (xAl Bj) ?_;refine Js (by first|exact xS1 Al|exact xSk Al) ?_)|(refine Tx 3 ?_;refine jD ?_;refine Jo (xCl Tryz.func218 (UN)) ?_;refine Jn (xAl Aj) ?_;refine Js (xSk Aa) ?_)|(refine Tx 4 ?_;refine Jo (by first|exact xMf [(4,0,none),(5,0,none),(1,0,none),(2,0,none),(6,0,none)]|exact Ah rfl (by repeat' first|exact AC rfl rfl|refine Ay rfl rfl rfl ?_)) ?_;refine Ja ?_)|(refine Tx 5 ?_;refine Jo (by first|exact xMf [(6,0,none)]|exact Ah rfl (by repeat' first|exact AC rfl rfl|refine Ay rfl rfl rfl ?_)) ?_;refine Ja ?_)|(refine Tx 6 ?_;refine jF ?_;refine jD ?_)|(refine Tx 7 ?_;refine Jo xEq ?_;refine Ja ?_)|(refine Tx 9 ?_;refine Jo xEq ?_;refine Ja ?_)|(refine Tx 11 ?_;refine Jo xEq ?_;refine Ja ?_)|(refine Tx 13 ?_;refine Jm ?_;refine Jo (xCc Tryz.func220 M0 (args:=[_]) rfl) ?_;refine Jm ?_;refine Jo (xCc Tryz.func220 M1 (args:=[_]) rfl) ?_;refine Jo (xCl Tryz.func152 (C)) ?_;refine Js (xSk Aa) ?_))
  exact Ap rfl (.cons_ (rvW Aa rfl) .nil_)
 ·
  obtain ⟨a,hA0,ha0,hl0⟩:=B.a0 (by omega)
  have hl0:=hl0 (by omega)
  have hL0:=(List.getElem?_eq_some_iff.1 hA0).1
  obtain ⟨b,hA1,ha1,hl1⟩:=B.a1 (by omega)
  have hL1:=(List.getElem?_eq_some_iff.1 hA1).1
  have M0:=Ed t u c E y s s0 s1 sE 0 hA0 (by omega) (by omega) (by omega) (by omega) (by omega)
  obtain ⟨m0,hm0⟩:∃ m,mvP c.F E s (a:Int)=m:=⟨_,rfl⟩
  have t0:=DF (F:=c.F) s0 s1 sE (a:Int)
  rw [hm0] at M0 t0
  have M1:=Ed t u c E y s s0 s1 sE 1 hA1 (by omega) (by omega) (by omega) (by omega) (by omega)
  obtain ⟨m1,hm1⟩:∃ m,mvP c.F E s (b:Int)=m:=⟨_,rfl⟩
  have t1:=DF (F:=c.F) s0 s1 sE (b:Int)
  rw [hm1] at M1 t1
  have C:=BZ m0.1 m0.2 m1.1 m1.2 t0.ok t1.ok (Nat.le_trans (t0.lenN 257 (by decide)) (by decide)) (Nat.le_trans (t1.lenN 257 (by decide)) (by decide))
  rw [show Bd ps c.F c.R E y s=DD m0 m1 by unfold Bd;rw [if_neg (by omega),if_neg (by omega),if_pos (by omega),ha0,ha1,hm0,hm1]]
  repeat' (with_reducible first|refine qq ?_|(refine Tx 0 ?_;refine Jn xBo ?_;refine Jn xBo ?_;refine Jn xBo ?_;refine Jn (xAl Aj) ?_)|(refine Tx 1 ?_;refine jF ?_;refine jD ?_;refine Jm ?_;refine Jo (xIr Ae (Bo hy)) ?_;refine jA ?_;refine Jn (xAl Aw) ?_;refine Js (xSk Au) ?_)|(refine Tx 2 ?_;refine jF ?_;refine jD ?_;refine Jm ?_;refine Jo (xIr Ab (Ak hFi)) ?_;refine jD ?_;refine Jn (xAl Bj) ?_;refine Js (by first|exact xS1 Al|exact xSk Al) ?_)|(refine Tx 3 ?_;refine jD ?_;refine Jo (xCl Tryz.func218 (UN)) ?_;refine Jn (xAl Aj) ?_;refine Js (xSk Aa) ?_)|(refine Tx 4 ?_;refine Jo (by first|exact xMf [(4,0,none),(5,0,none),(1,0,none),(2,0,none),(6,0,none)]|exact Ah rfl (by repeat' first|exact AC rfl rfl|refine Ay rfl rfl rfl ?_)) ?_;refine Ja ?_)|(refine Tx 5 ?_;refine Jo (by first|exact xMf [(6,0,none)]|exact Ah rfl (by repeat' first|exact AC rfl rfl|refine Ay rfl rfl rfl ?_)) ?_;refine Ja ?_)|(refine Tx 6 ?_;refine jF ?_;refine jD ?_)|(refine Tx 7 ?_;refine Jo xEq ?_;refine Ja ?_)|(refine Tx 9 ?_;refine Jo xEq ?_;refine Ja ?_)|(refine Tx 11 ?_;refine Jo xEq ?_;refine Ja ?_)|(refine Tx 12 ?_;refine Jo xEq ?_;refine Ja ?_)|(refine Tx 13 ?_;refine Jm ?_;refine Jo (xCc Tryz.func220 M0 (args:=[_]) rfl) ?_;refine Jm ?_;refine Jo (xCc Tryz.func220 M1 (args:=[_]) rfl) ?_;refine Jo (xCl Tryz.func152 (C)) ?_;refine Js (xSk Aa) ?_))
  exact Ap rfl (.cons_ (rvW Aa rfl) .nil_)
 ·
  obtain ⟨a,hA0,ha0,hl0⟩:=B.a0 (by omega)
  have hl0:=hl0 (by omega)
  have hL0:=(List.getElem?_eq_some_iff.1 hA0).1
  have M0:=Ed t u c E y s s0 s1 sE 0 hA0 (by omega) (by omega) (by omega) (by omega) (by omega)
  obtain ⟨m0,hm0⟩:∃ m,mvP c.F E s (a:Int)=m:=⟨_,rfl⟩
  have t0:=DF (F:=c.F) s0 s1 sE (a:Int)
  rw [hm0] at M0 t0
  rw [show Bd ps c.F c.R E y s=m0 by unfold Bd;rw [if_neg (by omega),if_neg (by omega),if_neg (by omega),if_pos (by omega),ha0,hm0]]
  repeat' (with_reducible first|refine qq ?_|(refine Tx 0 ?_;refine Jn xBo ?_;refine Jn xBo ?_;refine Jn xBo ?_;refine Jn (xAl Aj) ?_)|(refine Tx 1 ?_;refine jF ?_;refine jD ?_;refine Jm ?_;refine Jo (xIr Ae (Bo hy)) ?_;refine jA ?_;refine Jn (xAl Aw) ?_;refine Js (xSk Au) ?_)|(refine Tx 2 ?_;refine jF ?_;refine jD ?_;refine Jm ?_;refine Jo (xIr Ab (Ak hFi)) ?_;refine jD ?_;refine Jn (xAl Bj) ?_;refine Js (by first|exact xS1 Al|exact xSk Al) ?_)|(refine Tx 3 ?_;refine jD ?_;refine Jo (xCl Tryz.func218 (UN)) ?_;refine Jn (xAl Aj) ?_;refine Js (xSk Aa) ?_)|(refine Tx 4 ?_;refine Jo (by first|exact xMf [(4,0,none),(5,0,none),(1,0,none),(2,0,none),(6,0,none)]|exact Ah rfl (by repeat' first|exact AC rfl rfl|refine Ay rfl rfl rfl ?_)) ?_;refine Ja ?_)|(refine Tx 5 ?_;refine Jo (by first|exact xMf [(6,0,none)]|exact Ah rfl (by repeat' first|exact AC rfl rfl|refine Ay rfl rfl rfl ?_)) ?_;refine Ja ?_)|(refine Tx 6 ?_;refine jF ?_;refine jD ?_)|(refine Tx 7 ?_;refine Jo xEq ?_;refine Ja ?_)|(refine Tx 9 ?_;refine Jo xEq ?_;refine Ja ?_)|(refine Tx 11 ?_;refine Jo xEq ?_;refine Ja ?_)|(refine Tx 12 ?_;refine Jo xEq ?_;refine Ja ?_)|(refine Tx 14 ?_;refine Jo xEq ?_;refine Ja ?_)|(refine Tx 16 ?_;refine Jm ?_;refine Jo (xCc Tryz.func220 M0 (args:=[_]) rfl) ?_;refine Js (xSk Aa) ?_))
  exact Ap rfl (.cons_ (rvW Aa rfl) .nil_)
 ·
  obtain ⟨a,hA0,ha0,hl0⟩:=B.a0 (by omega)
  have hl0:=hl0 (by omega)
  have hL0:=(List.getElem?_eq_some_iff.1 hA0).1
  have hF0:=Hc (F:=c.F) (k:=a) (by omega)
  have hr0:=hsa (by omega) a (List.mem_of_getElem? hA0)
  rw [DM] at hr0
  have hv:=B.sv (by omega)
  have sv:=EA hv
  have hv2:=hv
  unfold EW at hv2
  have RV:=Ft y.vn y.ve hv
  have hEa:=RQ (E:=E) (k:=a) (by omega)
  have se:=Cz sE a
  obtain ⟨e,he⟩:∃ e,E[a]?.getD (0,0)=e:=⟨_,rfl⟩
  rw [he] at se hEa
  obtain ⟨r,hr⟩:∃ r,scA c.F a=r:=⟨_,rfl⟩
  rw [hr] at hF0 hr0
  obtain ⟨v,hvv⟩:∃ v,Ai y.vn 0 y.ve=v:=⟨_,rfl⟩
  rw [hvv] at RV sv
  have AB:=LF v.1 v.2 sv.ok (Nat.le_trans (sv.lenN 128 (by decide)) (by decide))
  have sa:=sv.abs
  have MU:=Ec (Gv v).1 (Gv v).2 e.1 e.2 sa.ok se.ok (Nat.le_trans (sa.lenN 128 (by decide)) (by decide)) (Nat.le_trans (se.lenN 128 (by decide)) (by decide)) (Nat.le_trans (Nat.add_le_add sa.d se.d) (by decide))
  have sm:=Sm.mul sa se (by decide)
  have ib:=Hz (b:=decide (s - r+y.ve<0)) s0 s1
  have IX:=IG (decide (s - r+y.ve<0)) s
  have AD:=BZ (CT (Gv v) e).1 (CT (Gv v) e).2 (ixP (decide (s - r+y.ve<0)) s).1 (ixP (decide (s - r+y.ve<0)) s).2 sm.ok ib.ok (Nat.le_trans (sm.lenN 256 (by decide)) (by decide)) (Nat.le_trans (ib.lenN 1 (by decide)) (by decide))
  rw [show Bd ps c.F c.R E y s=DD (CT (Gv v) e) (ixP (decide (s - r+y.ve<0)) s) by unfold Bd;rw [if_neg (by omega),if_neg (by omega),if_neg (by omega),if_neg (by omega),if_neg (by omega),if_pos h,ha0,DM,EG,he,hr,hvv]]
  repeat' (with_reducible first|refine qq ?_|(refine Tx 0 ?_;refine Jn xBo ?_;refine Jn xBo ?_;refine Jn xBo ?_;refine Jn (xAl Aj) ?_)|(refine Tx 1 ?_;refine jF ?_;refine jD ?_;refine Jm ?_;refine Jo (by first|exact xIr Ae (Bo hy)|exact xIr Ae (hEa)) ?_;refine jA ?_;refine Jn (xAl Aw) ?_;refine Js (xSk Au) ?_)|(refine Tx 2 ?_;refine jF ?_;refine jD ?_;refine Jm ?_;refine Jo (by first|exact xIr Ab (Ak hFi)|exact xIr Ab (Ak hF0)|exact xIr Ab (hEa)) ?_;refine jD ?_;refine Jn (xAl Bj) ?_;refine Js (by first|exact xS1 Al|exact xSk Al) ?_)|(refine Tx 3 ?_;refine jD ?_;refine Jo (xCl Tryz.func218 (UN)) ?_;refine Jn (xAl Aj) ?_;refine Js (xSk Aa) ?_)|(refine Tx 4 ?_;refine Jo (by first|exact xMf [(4,0,none),(5,0,none),(1,0,none),(2,0,none),(6,0,none)]|exact Ah rfl (by repeat' first|exact AC rfl rfl|refine Ay rfl rfl rfl ?_)) ?_;refine Ja ?_)|(refine Tx 5 ?_;refine Jo (by first|exact xMf [(6,0,none)]|exact Ah rfl (by repeat' first|exact AC rfl rfl|refine Ay rfl rfl rfl ?_)) ?_;refine Ja ?_)|(refine Tx 6 ?_;refine jF ?_;refine jD ?_)|(refine Tx 7 ?_;refine Jo xEq ?_;refine Ja ?_)|(refine Tx 9 ?_;refine Jo xEq ?_;refine Ja ?_)|(refine Tx 11 ?_;refine Jo xEq ?_;refine Ja ?_)|(refine Tx 12 ?_;refine Jo xEq ?_;refine Ja ?_)|(refine Tx 14 ?_;refine Jo xEq ?_;refine Ja ?_)|(refine Tx 15 ?_;refine Jo xEq ?_;refine Ja ?_)|(refine Tx 17 ?_;refine Jo xEq ?_;refine Ja ?_)|(refine Tx 18 ?_;refine Jo xEq ?_;refine Ja ?_)|(refine Tx 20 ?_;refine Jo xEq ?_;refine Ja ?_)|(refine Ba (id:=21) 30 AK (by kernel_rfl) ?_;dsimp only [List.take,List.drop];refine kF ?_;refine kA ?_;refine Ko (xCl Tryz.func219 (RV)) ?_;refine Ko (xCl Tryz.func158 (AB)) ?_;refine kD ?_;refine kF ?_;refine kD ?_;refine Ko (by first|exact xIr Ab (Ak hA0)|exact xIr Ab (hEa)) ?_;refine kD ?_;refine Ko (xIr Ac (hEa)) ?_;refine kA ?_;refine Ko (xCl Tryz.func157 (MU)) ?_;refine Km ?_;refine kD ?_;refine kF ?_;refine kD ?_;refine kF ?_;refine kD ?_;refine Ko (by first|exact xIr Ab (Ak hA0)|exact xIr Ab (hEa)) ?_;refine kD ?_;refine Ko (by first|exact xIr Ab (Ak hFi)|exact xIr Ab (Ak hF0)|exact xIr Ab (hEa)) ?_;refine kD ?_;refine Ko xSb ?_;refine kF ?_;refine kF ?_;refine kD ?_;refine Ko xAd ?_;refine Ko (by first|exact LV rfl rfl rfl|exact xLt) ?_;refine Ko (xCc Tryz.func221 IX (args:=[_]) rfl) ?_;refine Ko (xCl Tryz.func152 (AD)) ?_;refine Ke ?_;refine Js (xSk Aa) ?_))
  exact Ap rfl (.cons_ (rvW Aa rfl) .nil_)
 ·
  obtain ⟨a,hA0,ha0,hl0⟩:=B.a0 (by omega)
  have hl0:=hl0 (by omega)
  have hL0:=(List.getElem?_eq_some_iff.1 hA0).1
  obtain ⟨b,hA1,ha1,hl1⟩:=B.a1 (by omega)
  have hL1:=(List.getElem?_eq_some_iff.1 hA1).1
  have hF0:=Hc (F:=c.F) (k:=a) (by omega)
  have hr0:=hsa (by omega) a (List.mem_of_getElem? hA0)
  rw [DM] at hr0
  have hE0:=RQ (E:=E) (k:=a) (by omega)
  have se0:=Cz sE a
  obtain ⟨e0,he0⟩:∃ e,E[a]?.getD (0,0)=e:=⟨_,rfl⟩
  rw [he0] at se0 hE0
  obtain ⟨r0,hq0⟩:∃ r,scA c.F a=r:=⟨_,rfl⟩
  rw [hq0] at hF0 hr0
  have hI0:=TE (R:=c.R) (k:=a) (by omega)
  have si0:=Bf sR a
  obtain ⟨P0,hP0⟩:∃ P,c.R[a]?.getD iZ=P:=⟨_,rfl⟩
  rw [hP0] at si0 hI0
  have MG0:=Gn P0 (si0.more (show LB≤20000 by decide) (show LB≤20000 by decide))
  have sg0:=GG si0
  generalize hG0:Gw P0=G0 at MG0 sg0
  have hF1:=Hc (F:=c.F) (k:=b) (by omega)
  have hr1:=hsa (by omega) b (List.mem_of_getElem? hA1)
  rw [DM] at hr1
  have hE1:=RQ (E:=E) (k:=b) (by omega)
  have se1:=Cz sE b
  obtain ⟨e1,he1⟩:∃ e,E[b]?.getD (0,0)=e:=⟨_,rfl⟩
  rw [he1] at se1 hE1
  obtain ⟨r1,hq1⟩:∃ r,scA c.F b=r:=⟨_,rfl⟩
  rw [hq1] at hF1 hr1
  have hI1:=TE (R:=c.R) (k:=b) (by omega)
  have si1:=Bf sR b
  obtain ⟨P1,hP1⟩:∃ P,c.R[b]?.getD iZ=P:=⟨_,rfl⟩
  rw [hP1] at si1 hI1
  have MG1:=Gn P1 (si1.more (show LB≤20000 by decide) (show LB≤20000 by decide))
  have sg1:=GG si1
  generalize hG1:Gw P1=G1 at MG1 sg1
  have MA:=Ec G0.1 G0.2 e1.1 e1.2 sg0.ok se1.ok (Nat.le_trans (sg0.lenN 128 (by decide)) (by decide)) (Nat.le_trans (se1.lenN 128 (by decide)) (by decide)) (Nat.le_trans (Nat.add_le_add sg0.d se1.d) (by decide))
  have sMA:=Sm.mul sg0 se1 (by decide)
  have MB:=Ec G1.1 G1.2 e0.1 e0.2 sg1.ok se0.ok (Nat.le_trans (sg1.lenN 128 (by decide)) (by decide)) (Nat.le_trans (se0.lenN 128 (by decide)) (by decide)) (Nat.le_trans (Nat.add_le_add sg1.d se0.d) (by decide))
  have sMB:=Sm.mul sg1 se0 (by decide)
  have MC:=Ec e0.1 e0.2 e1.1 e1.2 se0.ok se1.ok (Nat.le_trans (se0.lenN 128 (by decide)) (by decide)) (Nat.le_trans (se1.lenN 128 (by decide)) (by decide)) (Nat.le_trans (Nat.add_le_add se0.d se1.d) (by decide))
  have sMC:=Sm.mul se0 se1 (by decide)
  generalize hA:CT G0 e1=A at *
  generalize hB:CT G1 e0=Bq at *
  generalize hC:CT e0 e1=Cq at *
  have hAe:Hw G0.1 G0.2 e1.1 e1.2=A:=hA
  have hBe:Hw G1.1 G1.2 e0.1 e0.2=Bq:=hB
  have hCe:Hw e0.1 e0.2 e1.1 e1.2=Cq:=hC
  rw [hAe] at MA sMA
  rw [hBe] at MB sMB
  rw [hCe] at MC sMC
  have D1:=BZ A.1 A.2 Bq.1 Bq.2 sMA.ok sMB.ok (Nat.le_trans (sMA.lenN 256 (by decide)) (by decide)) (Nat.le_trans (sMB.lenN 256 (by decide)) (by decide))
  have t1:Sm (DD A Bq) 16385 8192:=Sm.sum sMA sMB (by decide)
  generalize hS:DD A Bq=S1 at *
  have hSe:Cw A.1 A.2 Bq.1 Bq.2=S1:=hS
  rw [hSe] at D1
  have D2:=BZ S1.1 S1.2 Cq.1 Cq.2 t1.ok sMC.ok (Nat.le_trans (t1.lenN 513 (by decide)) (by decide)) (Nat.le_trans (sMC.lenN 256 (by decide)) (by decide))
  have t2:Sm (DD S1 Cq) 24578 8192:=Sm.sum t1 (sMC.more (by decide) (by decide)) (by decide)
  generalize hT:DD S1 Cq=S2 at *
  have hTe:Cw S1.1 S1.2 Cq.1 Cq.2=S2:=hT
  rw [hTe] at D2
  have ib:=Hz (b:=decide (s - r0 - r1<0)) s0 s1
  have IX:=IG (decide (s - r0 - r1<0)) s
  have D3:=BZ S2.1 S2.2 (ixP (decide (s - r0 - r1<0)) s).1 (ixP (decide (s - r0 - r1<0)) s).2 t2.ok ib.ok (Nat.le_trans (t2.lenN 769 (by decide)) (by decide)) (Nat.le_trans (ib.lenN 1 (by decide)) (by decide))
  rw [show Bd ps c.F c.R E y s=DD S2 (ixP (decide (s - r0 - r1<0)) s) by unfold Bd;rw [if_neg (by omega),if_neg (by omega),if_neg (by omega),if_neg (by omega),if_neg (by omega),if_neg (by omega),if_pos h,ha0,ha1,DM,DM,EG,EG,IV,IV,he0,he1,hq0,hq1,hP0,hP1,hG0,hG1,hA,hB,hC,hS,hT]]
  repeat' (with_reducible first|refine qq ?_|(refine Tx 0 ?_;refine Jn xBo ?_;refine Jn xBo ?_;refine Jn xBo ?_;refine Jn (xAl Aj) ?_)|(refine Tx 1 ?_;refine jF ?_;refine jD ?_;refine Jm ?_;refine Jo (by first|exact xIr Ae (Bo hy)|exact xIr Ae (hE0)|exact xIr Ae (hE1)|exact xIr Ae (hI0)|exact xIr Ae (hI1)) ?_;refine jA ?_;refine Jn (xAl Aw) ?_;refine Js (xSk Au) ?_)|(refine Tx 2 ?_;refine jF ?_;refine jD ?_;refine Jm ?_;refine Jo (by first|exact xIr Ab (Ak hFi)|exact xIr Ab (Ak hF0)|exact xIr Ab (Ak hF1)|exact xIr Ab (hE0)|exact xIr Ab (hE1)|exact xIr Ab (hI0)|exact xIr Ab (hI1)) ?_;refine jD ?_;refine Jn (xAl Bj) ?_;refine Js (by first|exact xS1 Al|exact xSk Al) ?_)|(refine Tx 3 ?_;refine jD ?_;refine Jo (xCl Tryz.func218 (UN)) ?_;refine Jn (xAl Aj) ?_;refine Js (xSk Aa) ?_)|(refine Tx 4 ?_;refine Jo (by first|exact xMf [(4,0,none),(5,0,none),(1,0,none),(2,0,none),(6,0,none)]|exact Ah rfl (by repeat' first|exact AC rfl rfl|refine Ay rfl rfl rfl ?_)) ?_;refine Ja ?_)|(refine Tx 5 ?_;refine Jo (by first|exact xMf [(6,0,none)]|exact Ah rfl (by repeat' first|exact AC rfl rfl|refine Ay rfl rfl rfl ?_)) ?_;refine Ja ?_)|(refine Tx 6 ?_;refine jF ?_;refine jD ?_)|(refine Tx 7 ?_;refine Jo xEq ?_;refine Ja ?_)|(refine Tx 9 ?_;refine Jo xEq ?_;refine Ja ?_)|(refine Tx 11 ?_;refine Jo xEq ?_;refine Ja ?_)|(refine Tx 12 ?_;refine Jo xEq ?_;refine Ja ?_)|(refine Tx 14 ?_;refine Jo xEq ?_;refine Ja ?_)|(refine Tx 15 ?_;refine Jo xEq ?_;refine Ja ?_)|(refine Tx 17 ?_;refine Jo xEq ?_;refine Ja ?_)|(refine Tx 18 ?_;refine Jo xEq ?_;refine Ja ?_)|(refine Tx 20 ?_;refine Jo xEq ?_;refine Ja ?_)|(refine Tx 22 ?_;refine Jo xEq ?_;refine Ja ?_)|(refine AZ (id:=23) AK (by kernel_rfl) ?_;refine kF ?_;refine kD ?_;refine Ko (by first|exact xIr Ab (Ak hA0)|exact xIr Ab (hE0)|exact xIr Ab (hE1)|exact xIr Ab (hI0)|exact xIr Ab (hI1)) ?_;refine kD ?_;refine kF ?_;refine kD ?_;refine Ko (by first|exact xIr Ab (Ak hA1)|exact xIr Ab (hE0)|exact xIr Ab (hE1)|exact xIr Ab (hI0)|exact xIr Ab (hI1)) ?_;refine kD ?_;refine Ka ?_;refine Ka ?_;refine Ke ?_)|(refine Ba (id:=24) 24 AK (by kernel_rfl) ?_;dsimp only [List.take,List.drop];refine kF ?_;refine kD ?_;refine Km ?_;refine Ko (by first|exact xIr Af (hE0)|exact xIr Af (hE1)|exact xIr Af (hI0)|exact xIr Af (hI1)) ?_;refine kA ?_;refine Ko (by first|exact xCl Tryz.func159 (MG0)|exact xCl Tryz.func159 (MG1)) ?_;refine kD ?_;refine Km ?_;refine Ko (by first|exact xIr Ac (hE0)|exact xIr Ac (hE1)|exact xIr Ac (hI0)|exact xIr Ac (hI1)) ?_;refine kA ?_;refine Ko (by first|exact xCl Tryz.func157 (MA)|exact xCl Tryz.func157 (MB)|exact xCl Tryz.func157 (MC)) ?_;refine kF ?_;refine kD ?_;refine Km ?_;refine Ko (by first|exact xIr Af (hE0)|exact xIr Af (hE1)|exact xIr Af (hI0)|exact xIr Af (hI1)) ?_;refine kA ?_;refine Ko (by first|exact xCl Tryz.func159 (MG0)|exact xCl Tryz.func159 (MG1)) ?_;refine kD ?_;refine Km ?_;refine Ko (by first|exact xIr Ac (hE0)|exact xIr Ac (hE1)|exact xIr Ac (hI0)|exact xIr Ac (hI1)) ?_;refine kA ?_;refine Ko (by first|exact xCl Tryz.func157 (MA)|exact xCl Tryz.func157 (MB)|exact xCl Tryz.func157 (MC)) ?_;refine Ko (by first|exact xCl Tryz.func152 (D1)|exact xCl Tryz.func152 (D2)|exact xCl Tryz.func152 (D3)) ?_;refine Kn (xAl Aj) ?_;refine Ke ?_;refine Js (xSk Aa) ?_)|(refine Ba (id:=25) 28 AK (by kernel_rfl) ?_;dsimp only [List.take,List.drop];refine kA ?_;refine kD ?_;refine Km ?_;refine Ko (by first|exact xIr Ac (hE0)|exact xIr Ac (hE1)|exact xIr Ac (hI0)|exact xIr Ac (hI1)) ?_;refine kA ?_;refine kD ?_;refine Km ?_;refine Ko (by first|exact xIr Ac (hE0)|exact xIr Ac (hE1)|exact xIr Ac (hI0)|exact xIr Ac (hI1)) ?_;refine kA ?_;refine Ko (by first|exact xCl Tryz.func157 (MA)|exact xCl Tryz.func157 (MB)|exact xCl Tryz.func157 (MC)) ?_;refine Ko (by first|exact xCl Tryz.func152 (D1)|exact xCl Tryz.func152 (D2)|exact xCl Tryz.func152 (D3)) ?_;refine Km ?_;refine kD ?_;refine kF ?_;refine kD ?_;refine Km ?_;refine Ko (by first|exact xIr Ab (Ak hFi)|exact xIr Ab (Ak hF0)|exact xIr Ab (Ak hF1)|exact xIr Ab (hE0)|exact xIr Ab (hE1)|exact xIr Ab (hI0)|exact xIr Ab (hI1)) ?_;refine kD ?_;refine Ko xSb ?_;refine kF ?_;refine kD ?_;refine Km ?_;refine Ko (by first|exact xIr Ab (Ak hFi)|exact xIr Ab (Ak hF0)|exact xIr Ab (Ak hF1)|exact xIr Ab (hE0)|exact xIr Ab (hE1)|exact xIr Ab (hI0)|exact xIr Ab (hI1)) ?_;refine kD ?_;refine Ko xSb ?_;refine Ko (by first|exact LV rfl rfl rfl|exact xLt) ?_;refine Ko (xCc Tryz.func221 IX (args:=[_]) rfl) ?_;refine Ko (by first|exact xCl Tryz.func152 (D1)|exact xCl Tryz.func152 (D2)|exact xCl Tryz.func152 (D3)) ?_;refine Ke ?_;refine Js (xSk Aa) ?_))
  exact Ap rfl (.cons_ (rvW Aa rfl) .nil_)
 ·
  obtain ⟨a,hA0,ha0,hl0⟩:=B.a0 (by omega)
  have hl0:=hl0 (by omega)
  have hL0:=(List.getElem?_eq_some_iff.1 hA0).1
  obtain ⟨b,hA1,ha1,hl1⟩:=B.a1 (by omega)
  have hL1:=(List.getElem?_eq_some_iff.1 hA1).1
  have M0:=Ed t u c E y s s0 s1 sE 0 hA0 (by omega) (by omega) (by omega) (by omega) (by omega)
  obtain ⟨m0,hm0⟩:∃ m,mvP c.F E s (a:Int)=m:=⟨_,rfl⟩
  have t0:=DF (F:=c.F) s0 s1 sE (a:Int)
  rw [hm0] at M0 t0
  have M1:=Ed t u c E y s s0 s1 sE 1 hA1 (by omega) (by omega) (by omega) (by omega) (by omega)
  obtain ⟨m1,hm1⟩:∃ m,mvP c.F E s (b:Int)=m:=⟨_,rfl⟩
  have t1:=DF (F:=c.F) s0 s1 sE (b:Int)
  rw [hm1] at M1 t1
  have C:=DB m0.1 m0.2 m1.1 m1.2 t0.ok t1.ok (Nat.le_trans (t0.lenN 257 (by decide)) (by decide)) (Nat.le_trans (t1.lenN 257 (by decide)) (by decide))
  rw [show Bd ps c.F c.R E y s=FY m0 m1 by unfold Bd;rw [if_neg (by omega),if_neg (by omega),if_neg (by omega),if_neg (by omega),if_pos (by omega),ha0,ha1,hm0,hm1]]
  repeat' (with_reducible first|refine qq ?_|(refine Tx 0 ?_;refine Jn xBo ?_;refine Jn xBo ?_;refine Jn xBo ?_;refine Jn (xAl Aj) ?_)|(refine Tx 1 ?_;refine jF ?_;refine jD ?_;refine Jm ?_;refine Jo (xIr Ae (Bo hy)) ?_;refine jA ?_;refine Jn (xAl Aw) ?_;refine Js (xSk Au) ?_)|(refine Tx 2 ?_;refine jF ?_;refine jD ?_;refine Jm ?_;refine Jo (xIr Ab (Ak hFi)) ?_;refine jD ?_;refine Jn (xAl Bj) ?_;refine Js (by first|exact xS1 Al|exact xSk Al) ?_)|(refine Tx 3 ?_;refine jD ?_;refine Jo (xCl Tryz.func218 (UN)) ?_;refine Jn (xAl Aj) ?_;refine Js (xSk Aa) ?_)|(refine Tx 4 ?_;refine Jo (by first|exact xMf [(4,0,none),(5,0,none),(1,0,none),(2,0,none),(6,0,none)]|exact Ah rfl (by repeat' first|exact AC rfl rfl|refine Ay rfl rfl rfl ?_)) ?_;refine Ja ?_)|(refine Tx 5 ?_;refine Jo (by first|exact xMf [(6,0,none)]|exact Ah rfl (by repeat' first|exact AC rfl rfl|refine Ay rfl rfl rfl ?_)) ?_;refine Ja ?_)|(refine Tx 6 ?_;refine jF ?_;refine jD ?_)|(refine Tx 7 ?_;refine Jo xEq ?_;refine Ja ?_)|(refine Tx 9 ?_;refine Jo xEq ?_;refine Ja ?_)|(refine Tx 11 ?_;refine Jo xEq ?_;refine Ja ?_)|(refine Tx 12 ?_;refine Jo xEq ?_;refine Ja ?_)|(refine Tx 14 ?_;refine Jo xEq ?_;refine Ja ?_)|(refine Tx 15 ?_;refine Jo xEq ?_;refine Ja ?_)|(refine Tx 17 ?_;refine Jo xEq ?_;refine Ja ?_)|(refine Tx 19 ?_;refine Jm ?_;refine Jo (xCc Tryz.func220 M0 (args:=[_]) rfl) ?_;refine Jm ?_;refine Jo (xCc Tryz.func220 M1 (args:=[_]) rfl) ?_;refine Jo (xCl Tryz.func156 (C)) ?_;refine Js (xSk Aa) ?_))
  exact Ap rfl (.cons_ (rvW Aa rfl) .nil_)
 ·
  obtain ⟨a,hA0,ha0,hl0⟩:=B.a0 (by omega)
  have hl0:=hl0 (by omega)
  have hL0:=(List.getElem?_eq_some_iff.1 hA0).1
  obtain ⟨b,hA1,ha1,hl1⟩:=B.a1 (by omega)
  have hL1:=(List.getElem?_eq_some_iff.1 hA1).1
  have M0:=Ed t u c E y s s0 s1 sE 0 hA0 (by omega) (by omega) (by omega) (by omega) (by omega)
  obtain ⟨m0,hm0⟩:∃ m,mvP c.F E s (a:Int)=m:=⟨_,rfl⟩
  have t0:=DF (F:=c.F) s0 s1 sE (a:Int)
  rw [hm0] at M0 t0
  have M1:=Ed t u c E y s s0 s1 sE 1 hA1 (by omega) (by omega) (by omega) (by omega) (by omega)
  obtain ⟨m1,hm1⟩:∃ m,mvP c.F E s (b:Int)=m:=⟨_,rfl⟩
  have t1:=DF (F:=c.F) s0 s1 sE (b:Int)
  rw [hm1] at M1 t1
  have C:=DB m0.1 m0.2 m1.1 m1.2 t0.ok t1.ok (Nat.le_trans (t0.lenN 257 (by decide)) (by decide)) (Nat.le_trans (t1.lenN 257 (by decide)) (by decide))
  rw [show Bd ps c.F c.R E y s=FY m0 m1 by unfold Bd;rw [if_neg (by omega),if_neg (by omega),if_neg (by omega),if_neg (by omega),if_pos (by omega),ha0,ha1,hm0,hm1]]
  repeat' (with_reducible first|refine qq ?_|(refine Tx 0 ?_;refine Jn xBo ?_;refine Jn xBo ?_;refine Jn xBo ?_;refine Jn (xAl Aj) ?_)|(refine Tx 1 ?_;refine jF ?_;refine jD ?_;refine Jm ?_;refine Jo (xIr Ae (Bo hy)) ?_;refine jA ?_;refine Jn (xAl Aw) ?_;refine Js (xSk Au) ?_)|(refine Tx 2 ?_;refine jF ?_;refine jD ?_;refine Jm ?_;refine Jo (xIr Ab (Ak hFi)) ?_;refine jD ?_;refine Jn (xAl Bj) ?_;refine Js (by first|exact xS1 Al|exact xSk Al) ?_)|(refine Tx 3 ?_;refine jD ?_;refine Jo (xCl Tryz.func218 (UN)) ?_;refine Jn (xAl Aj) ?_;refine Js (xSk Aa) ?_)|(refine Tx 4 ?_;refine Jo (by first|exact xMf [(4,0,none),(5,0,none),(1,0,none),(2,0,none),(6,0,none)]|exact Ah rfl (by repeat' first|exact AC rfl rfl|refine Ay rfl rfl rfl ?_)) ?_;refine Ja ?_)|(refine Tx 5 ?_;refine Jo (by first|exact xMf [(6,0,none)]|exact Ah rfl (by repeat' first|exact AC rfl rfl|refine Ay rfl rfl rfl ?_)) ?_;refine Ja ?_)|(refine Tx 6 ?_;refine jF ?_;refine jD ?_)|(refine Tx 7 ?_;refine Jo xEq ?_;refine Ja ?_)|(refine Tx 9 ?_;refine Jo xEq ?_;refine Ja ?_)|(refine Tx 11 ?_;refine Jo xEq ?_;refine Ja ?_)|(refine Tx 12 ?_;refine Jo xEq ?_;refine Ja ?_)|(refine Tx 14 ?_;refine Jo xEq ?_;refine Ja ?_)|(refine Tx 15 ?_;refine Jo xEq ?_;refine Ja ?_)|(refine Tx 17 ?_;refine Jo xEq ?_;refine Ja ?_)|(refine Tx 18 ?_;refine Jo xEq ?_;refine Ja ?_)|(refine Tx 19 ?_;refine Jm ?_;refine Jo (xCc Tryz.func220 M0 (args:=[_]) rfl) ?_;refine Jm ?_;refine Jo (xCc Tryz.func220 M1 (args:=[_]) rfl) ?_;refine Jo (xCl Tryz.func156 (C)) ?_;refine Js (xSk Aa) ?_))
  exact Ap rfl (.cons_ (rvW Aa rfl) .nil_)
 ·
  obtain ⟨a,hA0,ha0,hl0⟩:=B.a0 (by omega)
  have hl0:=hl0 (by omega)
  have hL0:=(List.getElem?_eq_some_iff.1 hA0).1
  have M0:=Ed t u c E y s s0 s1 sE 0 hA0 (by omega) (by omega) (by omega) (by omega) (by omega)
  obtain ⟨m0,hm0⟩:∃ m,mvP c.F E s (a:Int)=m:=⟨_,rfl⟩
  have t0:=DF (F:=c.F) s0 s1 sE (a:Int)
  rw [hm0] at M0 t0
  rw [show Bd ps c.F c.R E y s=m0 by unfold Bd;rw [if_neg (by omega),if_neg (by omega),if_neg (by omega),if_pos (by omega),ha0,hm0]]
  repeat' (with_reducible first|refine qq ?_|(refine Tx 0 ?_;refine Jn xBo ?_;refine Jn xBo ?_;refine Jn xBo ?_;refine Jn (xAl Aj) ?_)|(refine Tx 1 ?_;refine jF ?_;refine jD ?_;refine Jm ?_;refine Jo (xIr Ae (Bo hy)) ?_;refine jA ?_;refine Jn (xAl Aw) ?_;refine Js (xSk Au) ?_)|(refine Tx 2 ?_;refine jF ?_;refine jD ?_;refine Jm ?_;refine Jo (xIr Ab (Ak hFi)) ?_;refine jD ?_;refine Jn (xAl Bj) ?_;refine Js (by first|exact xS1 Al|exact xSk Al) ?_)|(refine Tx 3 ?_;refine jD ?_;refine Jo (xCl Tryz.func218 (UN)) ?_;refine Jn (xAl Aj) ?_;refine Js (xSk Aa) ?_)|(refine Tx 4 ?_;refine Jo (by first|exact xMf [(4,0,none),(5,0,none),(1,0,none),(2,0,none),(6,0,none)]|exact Ah rfl (by repeat' first|exact AC rfl rfl|refine Ay rfl rfl rfl ?_)) ?_;refine Ja ?_)|(refine Tx 5 ?_;refine Jo (by first|exact xMf [(6,0,none)]|exact Ah rfl (by repeat' first|exact AC rfl rfl|refine Ay rfl rfl rfl ?_)) ?_;refine Ja ?_)|(refine Tx 6 ?_;refine jF ?_;refine jD ?_)|(refine Tx 7 ?_;refine Jo xEq ?_;refine Ja ?_)|(refine Tx 9 ?_;refine Jo xEq ?_;refine Ja ?_)|(refine Tx 11 ?_;refine Jo xEq ?_;refine Ja ?_)|(refine Tx 12 ?_;refine Jo xEq ?_;refine Ja ?_)|(refine Tx 14 ?_;refine Jo xEq ?_;refine Ja ?_)|(refine Tx 15 ?_;refine Jo xEq ?_;refine Ja ?_)|(refine Tx 16 ?_;refine Jm ?_;refine Jo (xCc Tryz.func220 M0 (args:=[_]) rfl) ?_;refine Js (xSk Aa) ?_))
  exact Ap rfl (.cons_ (rvW Aa rfl) .nil_)
 ·
  obtain ⟨a,hA0,ha0,hl0⟩:=B.a0 (by omega)
  have hl0:=hl0 (by omega)
  have hL0:=(List.getElem?_eq_some_iff.1 hA0).1
  have M0:=Ed t u c E y s s0 s1 sE 0 hA0 (by omega) (by omega) (by omega) (by omega) (by omega)
  obtain ⟨m0,hm0⟩:∃ m,mvP c.F E s (a:Int)=m:=⟨_,rfl⟩
  have t0:=DF (F:=c.F) s0 s1 sE (a:Int)
  rw [hm0] at M0 t0
  have WH:=Gp y.vn y.ve s (B.sv (by omega)) s0 s1
  have WU:=Gp y.un y.ue s (B.su h) s0 s1
  have ib:=Hz (b:=(!Bl y.vn y.ve s || !Bl y.un y.ue s)) s0 s1
  have IX:=IG (!Bl y.vn y.ve s || !Bl y.un y.ue s) s
  have C:=DB m0.1 m0.2 (ixP (!Bl y.vn y.ve s || !Bl y.un y.ue s) s).1 (ixP (!Bl y.vn y.ve s || !Bl y.un y.ue s) s).2 t0.ok ib.ok (Nat.le_trans (t0.lenN 257 (by decide)) (by decide)) (Nat.le_trans (ib.lenN 1 (by decide)) (by decide))
  rw [show Bd ps c.F c.R E y s=FY m0 (ixP (!Bl y.vn y.ve s || !Bl y.un y.ue s) s) by unfold Bd;rw [if_neg (by omega),if_neg (by omega),if_neg (by omega),if_neg (by omega),if_neg (by omega),if_neg (by omega),if_neg (by omega),if_pos h,ha0,hm0]]
  cases hw:Bl y.vn y.ve s
  case false =>
   rw [hw] at WH IX C
   simp only [Bool.not_false,Bool.not_true,Bool.true_or,Bool.false_or] at IX C
   simp only [Bool.not_false,Bool.not_true,Bool.true_or,Bool.false_or]
   repeat' (with_reducible first|refine qq ?_|(refine Tx 0 ?_;refine Jn xBo ?_;refine Jn xBo ?_;refine Jn xBo ?_;refine Jn (xAl Aj) ?_)|(refine Tx 1 ?_;refine jF ?_;refine jD ?_;refine Jm ?_;refine Jo (xIr Ae (Bo hy)) ?_;refine jA ?_;refine Jn (xAl Aw) ?_;refine Js (xSk Au) ?_)|(refine Tx 2 ?_;refine jF ?_;refine jD ?_;refine Jm ?_;refine Jo (xIr Ab (Ak hFi)) ?_;refine jD ?_;refine Jn (xAl Bj) ?_;refine Js (by first|exact xS1 Al|exact xSk Al) ?_)|(refine Tx 3 ?_;refine jD ?_;refine Jo (xCl Tryz.func218 (UN)) ?_;refine Jn (xAl Aj) ?_;refine Js (xSk Aa) ?_)|(refine Tx 4 ?_;refine Jo (by first|exact xMf [(4,0,none),(5,0,none),(1,0,none),(2,0,none),(6,0,none)]|exact Ah rfl (by repeat' first|exact AC rfl rfl|refine Ay rfl rfl rfl ?_)) ?_;refine Ja ?_)|(refine Tx 5 ?_;refine Jo (by first|exact xMf [(6,0,none)]|exact Ah rfl (by repeat' first|exact AC rfl rfl|refine Ay rfl rfl rfl ?_)) ?_;refine Ja ?_)|(refine Tx 6 ?_;refine jF ?_;refine jD ?_)|(refine Tx 7 ?_;refine Jo xEq ?_;refine Ja ?_)|(refine Tx 9 ?_;refine Jo xEq ?_;refine Ja ?_)|(refine Tx 11 ?_;refine Jo xEq ?_;refine Ja ?_)|(refine Tx 12 ?_;refine Jo xEq ?_;refine Ja ?_)|(refine Tx 14 ?_;refine Jo xEq ?_;refine Ja ?_)|(refine Tx 15 ?_;refine Jo xEq ?_;refine Ja ?_)|(refine Tx 17 ?_;refine Jo xEq ?_;refine Ja ?_)|(refine Tx 18 ?_;refine Jo xEq ?_;refine Ja ?_)|(refine Tx 20 ?_;refine Jo xEq ?_;refine Ja ?_)|(refine Tx 22 ?_;refine Jo xEq ?_;refine Ja ?_)|(refine Tx 26 ?_;refine Jo xEq ?_;refine Ja ?_)|(refine Ba (id:=27) 17 AK (by kernel_rfl) ?_;dsimp only [List.take,List.drop];refine Km ?_;refine Ko (xCc Tryz.func220 M0 (args:=[_]) rfl) ?_;refine Km ?_;refine kF ?_;refine kA ?_;refine kD ?_;refine Ko (by first|exact xCl Tryz.func222 (WH)|exact xCl Tryz.func222 (WU)) ?_;refine Ko (by first|exact xNt|exact xNg) ?_;refine Km ?_;(first|iterate 5 refine Kd ?_|(refine Ky (xFa CH AI) ?_;refine Ky (xLa AI) ?_;refine Ky (xLd Al) ?_;refine Ky (by first|exact xCl Tryz.func222 (WH)|exact xCl Tryz.func222 (WU)) ?_;refine Ky (by first|exact xNt|exact xNg) ?_));refine Ko xPk ?_;refine Ko (xCc Tryz.func221 IX (args:=[_]) rfl) ?_;refine Ko (xCl Tryz.func156 (C)) ?_;refine Ke ?_;refine Js (xSk Aa) ?_))
   exact Ap rfl (.cons_ (rvW Aa rfl) .nil_)
  case true =>
   rw [hw] at WH IX C
   simp only [Bool.not_false,Bool.not_true,Bool.true_or,Bool.false_or] at IX C
   simp only [Bool.not_false,Bool.not_true,Bool.true_or,Bool.false_or]
   repeat' (with_reducible first|refine qq ?_|(refine Tx 0 ?_;refine Jn xBo ?_;refine Jn xBo ?_;refine Jn xBo ?_;refine Jn (xAl Aj) ?_)|(refine Tx 1 ?_;refine jF ?_;refine jD ?_;refine Jm ?_;refine Jo (xIr Ae (Bo hy)) ?_;refine jA ?_;refine Jn (xAl Aw) ?_;refine Js (xSk Au) ?_)|(refine Tx 2 ?_;refine jF ?_;refine jD ?_;refine Jm ?_;refine Jo (xIr Ab (Ak hFi)) ?_;refine jD ?_;refine Jn (xAl Bj) ?_;refine Js (by first|exact xS1 Al|exact xSk Al) ?_)|(refine Tx 3 ?_;refine jD ?_;refine Jo (xCl Tryz.func218 (UN)) ?_;refine Jn (xAl Aj) ?_;refine Js (xSk Aa) ?_)|(refine Tx 4 ?_;refine Jo (by first|exact xMf [(4,0,none),(5,0,none),(1,0,none),(2,0,none),(6,0,none)]|exact Ah rfl (by repeat' first|exact AC rfl rfl|refine Ay rfl rfl rfl ?_)) ?_;refine Ja ?_)|(refine Tx 5 ?_;refine Jo (by first|exact xMf [(6,0,none)]|exact Ah rfl (by repeat' first|exact AC rfl rfl|refine Ay rfl rfl rfl ?_)) ?_;refine Ja ?_)|(refine Tx 6 ?_;refine jF ?_;refine jD ?_)|(refine Tx 7 ?_;refine Jo xEq ?_;refine Ja ?_)|(refine Tx 9 ?_;refine Jo xEq ?_;refine Ja ?_)|(refine Tx 11 ?_;refine Jo xEq ?_;refine Ja ?_)|(refine Tx 12 ?_;refine Jo xEq ?_;refine Ja ?_)|(refine Tx 14 ?_;refine Jo xEq ?_;refine Ja ?_)|(refine Tx 15 ?_;refine Jo xEq ?_;refine Ja ?_)|(refine Tx 17 ?_;refine Jo xEq ?_;refine Ja ?_)|(refine Tx 18 ?_;refine Jo xEq ?_;refine Ja ?_)|(refine Tx 20 ?_;refine Jo xEq ?_;refine Ja ?_)|(refine Tx 22 ?_;refine Jo xEq ?_;refine Ja ?_)|(refine Tx 26 ?_;refine Jo xEq ?_;refine Ja ?_)|(refine Ba (id:=27) 17 AK (by kernel_rfl) ?_;dsimp only [List.take,List.drop];refine Km ?_;refine Ko (xCc Tryz.func220 M0 (args:=[_]) rfl) ?_;refine Km ?_;refine kF ?_;refine kA ?_;refine kD ?_;refine Ko (by first|exact xCl Tryz.func222 (WH)|exact xCl Tryz.func222 (WU)) ?_;refine Ko (by first|exact xNt|exact xNg) ?_;refine Km ?_;(first|iterate 5 refine Kd ?_|(refine Ky (xFa CH AI) ?_;refine Ky (xLa AI) ?_;refine Ky (xLd Al) ?_;refine Ky (by first|exact xCl Tryz.func222 (WH)|exact xCl Tryz.func222 (WU)) ?_;refine Ky (by first|exact xNt|exact xNg) ?_));refine Ko xPk ?_;refine Ko (xCc Tryz.func221 IX (args:=[_]) rfl) ?_;refine Ko (xCl Tryz.func156 (C)) ?_;refine Ke ?_;refine Js (xSk Aa) ?_))
   exact Ap rfl (.cons_ (rvW Aa rfl) .nil_)
theorem Afo {M E:Pq} {f:Int}:Fb (DD M E) f=decide (Cl (Ai (Cw M.1 M.2 E.1 E.2).1 (Cw M.1 M.2 E.1 E.2).2 f).1 (Ai (Cw M.1 M.2 E.1 E.2).1 (Cw M.1 M.2 E.1 E.2).2 f).2 2147483647 0≤0):=rfl
theorem XE (t u:Bool) {ps:List Prt} {bs:List Bk} (os:List Int) (c:Ct) (E:List Pq) (hE:E.length=bs.length) (sE:∀ p∈E,Sm p LB LB) (i:Nat) {y:Bk} (hy:bs[i]?=some y) (B:XD ps bs.length y) (hF:c.F.length=bs.length) (hR:c.R.length=bs.length) (sR:∀ p∈c.R,IwS p LB LB) (hn:bs.length≤1000000) (hs2:0≤scA c.F i∧scA c.F i≤30):CV Tryz.prog Ax 128 [aDg t ps bs os,.agg (dCt u c),.one (QE E),aI (i:Int)] [aB (Uy c.F c.R E y i)]:=by
 refine cvz Tryz.func128 Tryz.ntmps128 ?_
 have hil:=(List.getElem?_eq_some_iff.1 hy).1
 have hFi:=Hc (F:=c.F) (k:=i) (by omega)
 obtain ⟨s,hs⟩:∃ s,scA c.F i=s:=⟨_,rfl⟩
 rw [hs] at hFi
 have hBl:=B.len
 rw [hs] at hs2
 have hil2:i<c.R.length:=by omega
 have hIi:=TE hil2
 have hEi:=RQ (E:=E) (k:=i) (by omega)
 have si:=Bf sR i
 have se:=Cz sE i
 obtain ⟨P,hP⟩:∃ P,c.R[i]?.getD iZ=P:=⟨_,rfl⟩
 obtain ⟨e,he⟩:∃ e,E[i]?.getD (0,0)=e:=⟨_,rfl⟩
 rw [hP] at si hIi
 rw [he] at se hEi
 have MG:=Gn P (si.more (show LB≤20000 by decide) (show LB≤20000 by decide))
 have sg:=GG si
 obtain ⟨M,hM⟩:∃ M,Gw P=M:=⟨_,rfl⟩
 rw [hM] at MG sg
 have OF:=FV 2147483647 (by decide) (by decide)
 have AD1:=BZ M.1 M.2 e.1 e.2 sg.ok se.ok (Nat.le_trans (sg.lenN 128 (by decide)) (by decide)) (Nat.le_trans (se.lenN 128 (by decide)) (by decide))
 have ss1:=Sm.sum sg se (by decide)
 obtain ⟨S1,hS1⟩:∃ S,Cw M.1 M.2 e.1 e.2=S:=⟨_,rfl⟩
 rw [hS1] at AD1 ss1
 have SH1:=Ca S1.1 S1.2 s ss1.ok (Nat.le_trans (ss1.lenN 257 (by decide)) (by decide)) (by have:=ss1.ok.1;omega)
 have st1:=Gc ss1 hs2.1 hs2.2
 obtain ⟨T1,hT1⟩:∃ T,Ai S1.1 S1.2 s=T:=⟨_,rfl⟩
 rw [show GF S1 s=T1 from hT1] at st1
 rw [hT1] at SH1
 have CM1:=CY T1.1 T1.2 2147483647 0 st1.ok ⟨by decide,fun h=>absurd rfl h⟩ (Nat.le_trans (st1.lenN 258 (by decide)) (by decide)) (Nat.le_trans (Bb (k:=2) (by decide)) (by decide))
 have sb1:Fb (DD M e) s=decide (Cl T1.1 T1.2 2147483647 0≤0):=by rw [Afo,hS1,hT1]
 generalize Cl T1.1 T1.2 2147483647 0=q1 at *
 have hb:Uy c.F c.R E y i=(decide (q1≤0) && (!decide (y.kind=11) || Fb (DD (rG c.R (Cg y)).2 (eG E (Cg y))) s)):=by unfold Uy;rw [hs,hP,he,hM,sb1]
 rw [hb]
 by_cases c1:q1≤0
 case neg =>
  rw [decide_eq_false c1,Bool.false_and]
  repeat' (with_reducible first|refine qq ?_|(refine Tx 0 ?_;refine Jn xBo ?_;refine Jn xBo ?_;refine Ja ?_)|(refine Tx 1 ?_;refine Jo (xCl Tryz.func68 (OF)) ?_;refine Jn (xAl Aj) ?_;refine Js (xSk Aa) ?_)|(refine Tx 2 ?_;refine jF ?_;refine jD ?_;refine Jm ?_;refine Jo (by first|exact xIr Ab (Ak hFi)|exact xIr Ab (hIi)|exact xIr Ab (hEi)) ?_;refine jD ?_;refine Ja ?_)|(refine AZ (id:=3) AK (by kernel_rfl) ?_;refine kF ?_;refine kD ?_;refine Km ?_;refine Ko (by first|exact xIr Af (hIi)|exact xIr Af (hEi)) ?_;refine kA ?_;refine Ko (xCl Tryz.func159 (MG)) ?_;refine Km ?_;refine Km ?_;refine Ko (by first|exact xIr Ac (hIi)|exact xIr Ac (hEi)) ?_;refine kA ?_;refine Ko (xCl Tryz.func152 (AD1)) ?_;refine Km ?_;refine Ko (xCl Tryz.func21 (SH1)) ?_;refine kA ?_;refine Ko (xCl Tryz.func15 (CM1)) ?_;refine Ko xGt ?_;refine Ke ?_)|(refine Tx 4 ?_;refine Ja ?_))
  exact Ap rfl (.cons_ (BL rfl (rfl)) .nil_)
 rw [decide_eq_true c1,Bool.true_and]
 by_cases k11:y.kind=11
 case neg =>
  rw [decide_eq_false k11,Bool.not_false,Bool.true_or]
  repeat' (with_reducible first|refine qq ?_|(refine Tx 0 ?_;refine Jn xBo ?_;refine Jn xBo ?_;refine Ja ?_)|(refine Tx 1 ?_;refine Jo (xCl Tryz.func68 (OF)) ?_;refine Jn (xAl Aj) ?_;refine Js (xSk Aa) ?_)|(refine Tx 2 ?_;refine jF ?_;refine jD ?_;refine Jm ?_;refine Jo (by first|exact xIr Ab (Ak hFi)|exact xIr Ab (hIi)|exact xIr Ab (hEi)) ?_;refine jD ?_;refine Ja ?_)|(refine AZ (id:=3) AK (by kernel_rfl) ?_;refine kF ?_;refine kD ?_;refine Km ?_;refine Ko (by first|exact xIr Af (hIi)|exact xIr Af (hEi)) ?_;refine kA ?_;refine Ko (xCl Tryz.func159 (MG)) ?_;refine Km ?_;refine Km ?_;refine Ko (by first|exact xIr Ac (hIi)|exact xIr Ac (hEi)) ?_;refine kA ?_;refine Ko (xCl Tryz.func152 (AD1)) ?_;refine Km ?_;refine Ko (xCl Tryz.func21 (SH1)) ?_;refine kA ?_;refine Ko (xCl Tryz.func15 (CM1)) ?_;refine Ko xGt ?_;refine Ke ?_)|(refine Tx 5 ?_;refine jF ?_;refine jD ?_;refine Jm ?_;refine Jo (by first|exact xIr Ae (Bo hy)|exact xIr Ae (hIi)|exact xIr Ae (hEi)) ?_;refine jA ?_;refine Jn (xAl Aw) ?_;refine Js (xSk Au) ?_)|(refine Tx 6 ?_;refine jF ?_;refine jD ?_;refine Jo xNe ?_)|(refine Tx 7 ?_;refine Ja ?_))
  exact Ap rfl (.cons_ (BL rfl (rfl)) .nil_)
 rw [decide_eq_true k11,Bool.not_true,Bool.false_or]
 obtain ⟨a,hA0,ha0,hl0⟩:=B.a0 (by omega)
 have hl0:=hl0 (by omega)
 have hL0:=(List.getElem?_eq_some_iff.1 hA0).1
 rw [ha0,IV,EG]
 have hIa:=TE (R:=c.R) (k:=a) (by omega)
 have hEa:=RQ (E:=E) (k:=a) (by omega)
 have sj:=Bf sR a
 have sf:=Cz sE a
 obtain ⟨Q,hQ⟩:∃ Q,c.R[a]?.getD iZ=Q:=⟨_,rfl⟩
 obtain ⟨f,hf⟩:∃ f,E[a]?.getD (0,0)=f:=⟨_,rfl⟩
 rw [hQ] at sj hIa
 rw [hf] at sf hEa
 rw [hQ,hf]
 have sq:=sj.s2
 have AD2:=BZ Q.2.1 Q.2.2 f.1 f.2 sq.ok sf.ok (Nat.le_trans (sq.lenN 128 (by decide)) (by decide)) (Nat.le_trans (sf.lenN 128 (by decide)) (by decide))
 have ss2:=Sm.sum sq sf (by decide)
 obtain ⟨S2,hS2⟩:∃ S,Cw Q.2.1 Q.2.2 f.1 f.2=S:=⟨_,rfl⟩
 rw [hS2] at AD2 ss2
 have SH2:=Ca S2.1 S2.2 s ss2.ok (Nat.le_trans (ss2.lenN 257 (by decide)) (by decide)) (by have:=ss2.ok.1;omega)
 have st2:=Gc ss2 hs2.1 hs2.2
 obtain ⟨T2,hT2⟩:∃ T,Ai S2.1 S2.2 s=T:=⟨_,rfl⟩
 rw [show GF S2 s=T2 from hT2] at st2
 rw [hT2] at SH2
 have CM2:=CY T2.1 T2.2 2147483647 0 st2.ok ⟨by decide,fun h=>absurd rfl h⟩ (Nat.le_trans (st2.lenN 258 (by decide)) (by decide)) (Nat.le_trans (Bb (k:=2) (by decide)) (by decide))
 have sb2:Fb (DD Q.2 f) s=decide (Cl T2.1 T2.2 2147483647 0≤0):=by rw [Afo,hS2,hT2]
 generalize Cl T2.1 T2.2 2147483647 0=q2 at *
 rw [sb2]
 repeat' (with_reducible first|refine qq ?_|(refine Tx 0 ?_;refine Jn xBo ?_;refine Jn xBo ?_;refine Ja ?_)|(refine Tx 1 ?_;refine Jo (xCl Tryz.func68 (OF)) ?_;refine Jn (xAl Aj) ?_;refine Js (xSk Aa) ?_)|(refine Tx 2 ?_;refine jF ?_;refine jD ?_;refine Jm ?_;refine Jo (by first|exact xIr Ab (Ak hFi)|exact xIr Ab (hIi)|exact xIr Ab (hEi)|exact xIr Ab (hIa)|exact xIr Ab (hEa)) ?_;refine jD ?_;refine Ja ?_)|(refine AZ (id:=3) AK (by kernel_rfl) ?_;refine kF ?_;refine kD ?_;refine Km ?_;refine Ko (by first|exact xIr Af (hIi)|exact xIr Af (hEi)|exact xIr Af (hIa)|exact xIr Af (hEa)) ?_;refine kA ?_;refine Ko (xCl Tryz.func159 (MG)) ?_;refine Km ?_;refine Km ?_;refine Ko (by first|exact xIr Ac (hIi)|exact xIr Ac (hEi)|exact xIr Ac (hIa)|exact xIr Ac (hEa)) ?_;refine kA ?_;refine Ko (by first|exact xCl Tryz.func152 (AD1)|exact xCl Tryz.func152 (AD2)) ?_;refine Km ?_;refine Ko (by first|exact xCl Tryz.func21 (SH1)|exact xCl Tryz.func21 (SH2)) ?_;refine kA ?_;refine Ko (by first|exact xCl Tryz.func15 (CM1)|exact xCl Tryz.func15 (CM2)) ?_;refine Ko xGt ?_;refine Ke ?_)|(refine Tx 5 ?_;refine jF ?_;refine jD ?_;refine Jm ?_;refine Jo (by first|exact xIr Ae (Bo hy)|exact xIr Ae (hIi)|exact xIr Ae (hEi)|exact xIr Ae (hIa)|exact xIr Ae (hEa)) ?_;refine jA ?_;refine Jn (xAl Aw) ?_;refine Js (xSk Au) ?_)|(refine Tx 6 ?_;refine jF ?_;refine jD ?_;refine Jo xNe ?_)|(refine Tx 8 ?_;refine jF ?_;refine jD ?_;refine Jo (by first|exact xIr Ab (hIi)|exact xIr Ab (hEi)|exact xIr Ab (Ak hA0)|exact xIr Ab (hIa)|exact xIr Ab (hEa)) ?_;refine jD ?_;refine Ja ?_)|(refine AZ (id:=9) AK (by kernel_rfl) ?_;refine kF ?_;refine kD ?_;refine Km ?_;refine Ko (by first|exact xIr Af (hIi)|exact xIr Af (hEi)|exact xIr Af (hIa)|exact xIr Af (hEa)) ?_;refine kF ?_;refine kA ?_;refine Km ?_;refine Km ?_;refine Ko (by first|exact xIr Ac (hIi)|exact xIr Ac (hEi)|exact xIr Ac (hIa)|exact xIr Ac (hEa)) ?_;refine kA ?_;refine Ko (by first|exact xCl Tryz.func152 (AD1)|exact xCl Tryz.func152 (AD2)) ?_;refine Km ?_;refine Ko (by first|exact xCl Tryz.func21 (SH1)|exact xCl Tryz.func21 (SH2)) ?_;refine kA ?_;refine Ko (by first|exact xCl Tryz.func15 (CM1)|exact xCl Tryz.func15 (CM2)) ?_;refine Ko xLe ?_;refine Ka ?_;refine Ke ?_))
 exact Ap rfl (.cons_ (BL rfl (rfl)) .nil_)
theorem UB (t u:Bool) {ps:List Prt} {bs:List Bk} (os:List Int) (c:Ct) (i:Nat) {y:Bk} (hy:bs[i]?=some y) (B:XD ps bs.length y) (ok:AgB bs c) (hn:bs.length≤1000000) (hpn:ps.length≤1000000):CV Tryz.prog Ax 50 [aDg t ps bs os,.agg (dCt u c),aI (i:Int)] [aI (Ld ps bs c i)]:=by
 refine cvz Tryz.func50 Tryz.ntmps50 ?_
 have hA:=FX hy
 have hil:=(List.getElem?_eq_some_iff.1 hy).1
 have S1:=RP t u os c i hy B ok.lF hn hpn
 have S2:=RR t u os c i hy B ok.lR ok.sR hn hpn
 unfold Ld
 rw [hA]
 dsimp only
 cases h1:DL ps c.F y i
 case false =>
  rw [h1] at S1
  rw [if_pos rfl]
  repeat' (with_reducible first|refine qq ?_|(refine Tx 0 ?_;refine Jn xBo ?_;refine Jn xBo ?_;refine Ja ?_)|(refine Tx 1 ?_;refine jA ?_;refine jA ?_;refine Jm ?_;refine Jo (xCl Tryz.func125 (S1)) ?_;refine Jo (by first|exact xNt|exact xNg) ?_;refine Ja ?_)|(refine Tx 2 ?_;refine Ja ?_))
  exact Ap rfl (.cons_ (MT rfl rfl) .nil_)
 rw [h1] at S1
 rw [if_neg (by decide)]
 have h1s:=h1
 unfold DL at h1s
 rw [Bool.and_eq_true,Bool.and_eq_true] at h1s
 have hs2:0≤scA c.F i∧scA c.F i≤30:=of_decide_eq_true h1s.1
 have hsa:y.kind≠0→∀ a∈y.args,0≤sG c.F a∧sG c.F a≤30:=fun k0 a ha=>by
   have h2:=h1s.2.1
   rw [decide_eq_false k0,Bool.false_or] at h2
   exact of_decide_eq_true (List.all_eq_true.1 h2 a ha)
 cases h2:BP ps c.R y i
 case false =>
  rw [h2] at S2
  rw [if_pos rfl]
  repeat' (with_reducible first|refine qq ?_|(refine Tx 0 ?_;refine Jn xBo ?_;refine Jn xBo ?_;refine Ja ?_)|(refine Tx 1 ?_;refine jA ?_;refine jA ?_;refine Jm ?_;refine Jo (xCl Tryz.func125 (S1)) ?_;refine Jo (by first|exact xNt|exact xNg) ?_;refine Ja ?_)|(refine Tx 3 ?_;refine jA ?_;refine jA ?_;refine Jm ?_;refine Jo (xCl Tryz.func126 (S2)) ?_;refine Jo (by first|exact xNt|exact xNg) ?_;refine Ja ?_)|(refine Tx 4 ?_;refine Ja ?_))
  exact Ap rfl (.cons_ (MT rfl rfl) .nil_)
 rw [h2] at S2
 rw [if_neg (by decide)]
 have BD:=UA t u os c c.E ok.lE ok.sE i hy B ok.lF ok.lR ok.sR hn hpn hs2 hsa
 have sb:=LH (ps:=ps) (F:=c.F) (y:=y) hs2.1 hs2.2 ok.sR ok.sE (fun h6=>B.sv (by omega))
 have se:=Cz ok.sE i
 have hEi:=RQ (E:=c.E) (k:=i) (by have:=ok.lE;omega)
 have hlE:=ok.lE
 obtain ⟨e,he⟩:∃ e,c.E[i]?.getD (0,0)=e:=⟨_,rfl⟩
 rw [he] at se hEi
 rw [he]
 generalize Bd ps c.F c.R c.E y (scA c.F i)=b at *
 have CM:=CY e.1 e.2 b.1 b.2 se.ok sb.ok (Nat.le_trans (se.lenN 128 (by decide)) (by decide)) (Nat.le_trans (sb.lenN 1252 (by decide)) (by decide))
 rw [show Qs e b=Cl e.1 e.2 b.1 b.2 from rfl]
 generalize Cl e.1 e.2 b.1 b.2=q at *
 have FT:=XE t u os c c.E ok.lE ok.sE i hy B ok.lF ok.lR ok.sR hn hs2
 by_cases h3:q<0
 case pos =>
  rw [if_pos h3]
  repeat' (with_reducible first|refine qq ?_|(refine Tx 0 ?_;refine Jn xBo ?_;refine Jn xBo ?_;refine Ja ?_)|(refine Tx 1 ?_;refine jA ?_;refine jA ?_;refine Jm ?_;refine Jo (xCl Tryz.func125 (S1)) ?_;refine Jo (by first|exact xNt|exact xNg) ?_;refine Ja ?_)|(refine Tx 3 ?_;refine jA ?_;refine jA ?_;refine Jm ?_;refine Jo (xCl Tryz.func126 (S2)) ?_;refine Jo (by first|exact xNt|exact xNg) ?_;refine Ja ?_)|(refine AZ (id:=5) AK (by kernel_rfl) ?_;refine kF ?_;refine kD ?_;refine Km ?_;refine Ko (xIr Ac (hEi)) ?_;refine kA ?_;refine kA ?_;refine kA ?_;refine kF ?_;refine kD ?_;refine Km ?_;refine Ko (xCl Tryz.func127 (BD)) ?_;refine Ko (xCl Tryz.func15 (CM)) ?_;refine Ko xLt ?_;refine Ka ?_;refine Ke ?_)|(refine Tx 6 ?_;refine Ja ?_))
  exact Ap rfl (.cons_ (MT rfl rfl) .nil_)
 rw [if_neg h3]
 cases h4:Uy c.F c.R c.E y i
 case false =>
  rw [h4] at FT
  rw [if_pos rfl]
  repeat' (with_reducible first|refine qq ?_|(refine Tx 0 ?_;refine Jn xBo ?_;refine Jn xBo ?_;refine Ja ?_)|(refine Tx 1 ?_;refine jA ?_;refine jA ?_;refine Jm ?_;refine Jo (xCl Tryz.func125 (S1)) ?_;refine Jo (by first|exact xNt|exact xNg) ?_;refine Ja ?_)|(refine Tx 3 ?_;refine jA ?_;refine jA ?_;refine Jm ?_;refine Jo (xCl Tryz.func126 (S2)) ?_;refine Jo (by first|exact xNt|exact xNg) ?_;refine Ja ?_)|(refine AZ (id:=5) AK (by kernel_rfl) ?_;refine kF ?_;refine kD ?_;refine Km ?_;refine Ko (xIr Ac (hEi)) ?_;refine kA ?_;refine kA ?_;refine kA ?_;refine kF ?_;refine kD ?_;refine Km ?_;refine Ko (xCl Tryz.func127 (BD)) ?_;refine Ko (xCl Tryz.func15 (CM)) ?_;refine Ko xLt ?_;refine Ka ?_;refine Ke ?_)|(refine Tx 7 ?_;refine jA ?_;refine jA ?_;refine jF ?_;refine jD ?_;refine Jm ?_;refine Jo (xCl Tryz.func128 (FT)) ?_;refine Jo (by first|exact xNt|exact xNg) ?_;refine Ja ?_)|(refine Tx 8 ?_;refine Ja ?_))
  exact Ap rfl (.cons_ (MT rfl rfl) .nil_)
 rw [h4] at FT
 rw [if_neg (by decide)]
 repeat' (with_reducible first|refine qq ?_|(refine Tx 0 ?_;refine Jn xBo ?_;refine Jn xBo ?_;refine Ja ?_)|(refine Tx 1 ?_;refine jA ?_;refine jA ?_;refine Jm ?_;refine Jo (xCl Tryz.func125 (S1)) ?_;refine Jo (by first|exact xNt|exact xNg) ?_;refine Ja ?_)|(refine Tx 3 ?_;refine jA ?_;refine jA ?_;refine Jm ?_;refine Jo (xCl Tryz.func126 (S2)) ?_;refine Jo (by first|exact xNt|exact xNg) ?_;refine Ja ?_)|(refine AZ (id:=5) AK (by kernel_rfl) ?_;refine kF ?_;refine kD ?_;refine Km ?_;refine Ko (xIr Ac (hEi)) ?_;refine kA ?_;refine kA ?_;refine kA ?_;refine kF ?_;refine kD ?_;refine Km ?_;refine Ko (xCl Tryz.func127 (BD)) ?_;refine Ko (xCl Tryz.func15 (CM)) ?_;refine Ko xLt ?_;refine Ka ?_;refine Ke ?_)|(refine Tx 7 ?_;refine jA ?_;refine jA ?_;refine jF ?_;refine jD ?_;refine Jm ?_;refine Jo (xCl Tryz.func128 (FT)) ?_;refine Jo (by first|exact xNt|exact xNg) ?_;refine Ja ?_)|(refine Tx 9 ?_;refine Ja ?_))
 exact Ap rfl (.cons_ (MT rfl rfl) .nil_)
def gIn (a b:Iq):Prop:=gv b.1≤gv a.1∧gv a.2≤gv b.2
section
variable {a b c e:Iq} {n d:Nat}
theorem QG {x y:Int} (h:x*2 ^ GQ≤y*2 ^ GQ):x≤y:=Int.le_of_mul_le_mul_right h (BR GQ)
end
structure InW (vs vs':List (Option Iq)) (D:Nat→Prop):Prop where
 at_:∀ i,D i→∃ p p',vs[i]?=some (some p)∧vs'[i]?=some (some p')∧gIn p p'
theorem Pc {x:Pq} {n d:Nat} (hx:Sm x n d) (hd:d≤40000) {f:Int} (f0:0≤f) (f1:f≤30):Fb x f=decide (gv x*2 ^ f.toNat≤2147483647*2 ^ GQ):=by
 have hle:x.2≤GQ:=hx.le
 have e:gv (GF x f)=gv x*2 ^ f.toNat:=by
  have:=Qq (p:=x) (n:=f.toNat) hle (by omega)
  rwa [show ((f.toNat:Nat):Int)=f by omega] at this
 have hs:(GF x f).2≤GQ:=(Gc hx f0 f1).le
 unfold Fb
 rw [Bool.eq_iff_iff,decide_eq_true_eq,decide_eq_true_eq]
 rw [show Qs (GF x f) (2147483647,0)≤0 ↔ _ from My hs (by decide),e,Mz]
theorem AcP {x y:Pq} (hx:x.2≤GQ) (hy:y.2≤GQ) (h:gv x≤gv y):gv (upQ x)≤gv (upQ y):=by
 obtain ⟨_,b,k,c⟩:=XB hx
 obtain ⟨a',_,k',c'⟩:=XB hy
 have hp:(0:Int)<2 ^ (GQ - 62):=BR _
 rw [c] at b ⊢
 rw [c'] at a' ⊢
 refine Int.mul_le_mul_of_nonneg_right (Classical.byContradiction fun hn=>?_) (Int.le_of_lt hp)
 have h1:(k'+1)*2 ^ (GQ - 62)≤k*2 ^ (GQ - 62):=Int.mul_le_mul_of_nonneg_right (by omega) (Int.le_of_lt hp)
 rw [Int.add_mul] at h1
 omega
theorem AeU {x:Pq} (hx:x.2≤GQ) (h:0≤gv x):0≤gv (upQ x):=Int.le_trans h (XB hx).1
theorem AeV {b:Bool} {s:Int}:0≤gv (ixP b s):=by
 unfold ixP
 split
 ·rename_i h
  by_cases hs : -65536 ≤ -s ∧ -s≤65536
  ·rw [AeR hs.1 hs.2];exact Int.le_of_lt (BR _)
  ·unfold pw Ai
   unfold gv
   refine Int.mul_nonneg ?_ (Int.le_of_lt (BR _))
   have key:∀ (d:Nat) (m:Int),0≤m→0≤(nf m d).1:=fun d=>by
    induction d with
    | zero=>exact fun m h=>h
    | succ d ih =>
     intro m h
     unfold nf
     split
     ·exact ih _ (by omega)
     ·exact h
   split
   ·exact key _ _ (by decide)
   ·exact key _ _ (by have:=BR (max (-65536) (min (-s) 65536)).toNat;omega)
 ·exact Int.le_of_eq Fp.symm
section
variable {ps:List Prt} {bs:List Bk} {os:List Int} {F:List Int} {R:List Iq} {E E':List Pq} {y:Bk} {s:Int}
structure InE (E' E:List Pq):Prop where
 lo:∀ k:Nat,0≤gv (E'[k]?.getD (0,0))
 le:∀ k:Nat,gv (E'[k]?.getD (0,0))≤gv (E[k]?.getD (0,0))
theorem XF (h0:0≤s) (h1:s≤30) (hE:∀ p∈E,Sm p LB LB) (hE':∀ p∈E',Sm p LB LB) (h:InE E' E) (a:Int):0≤gv (mvP F E' s a)∧gv (mvP F E' s a)≤gv (mvP F E s a):=by
 have l:=h.lo a.toNat
 have g:=h.le a.toNat
 unfold mvP
 split
 ·exact ⟨l,g⟩
 ·rw [show gv (DD (eG E' a) (pw (-s)))=_ from EF (EL hE' a).le (IC h0 h1).le,show gv (DD (eG E a) (pw (-s)))=_ from EF (EL hE a).le (IC h0 h1).le]
  have:=AeT h0 h1
  have:=BR (65536 - s.toNat)
  unfold eG
  omega
theorem GY {p q p' q':Pq} (h:p.2+q.2≤GQ) (h':p'.2+q'.2≤GQ) (p0:0≤gv p') (q0:0≤gv q') (hp:gv p'≤gv p) (hq:gv q'≤gv q):0≤gv (CT p' q')∧gv (CT p' q')≤gv (CT p q):=by
 have e:=Xg h
 have e':=Xg h'
 have m1:gv p'*gv q'≤gv p*gv q:=Int.mul_le_mul hp hq q0 (Int.le_trans p0 hp)
 have m0:0≤gv p'*gv q':=Int.mul_nonneg p0 q0
 refine ⟨?_,QG (by rw [show gv (CT p' q')*2 ^ GQ=_ from e',show gv (CT p q)*2 ^ GQ=_ from e];exact m1)⟩
 refine QG ?_
 rw [Int.zero_mul,show gv (CT p' q')*2 ^ GQ=_ from e']
 exact m0
theorem XG {a:Iq} {n d:Nat} (h:IwS a n d):0≤gv (Gw a):=by
 unfold Gw
 rw [(AcE h).2]
 omega
theorem UC (h0:0≤s) (h1:s≤30) (hR:∀ p∈R,IwS p LB LB) (hE:∀ p∈E,Sm p LB LB) (hE':∀ p∈E',Sm p LB LB) (hv:y.kind=6→EW y.vn y.ve) (h:InE E' E):0≤gv (Bd ps F R E' y s)∧gv (Bd ps F R E' y s)≤gv (Bd ps F R E y s):=by
 have mv:=fun a=>XF (F:=F) h0 h1 hE hE' h a
 have sE:=fun a=>DF (F:=F) h0 h1 hE a
 have sE':=fun a=>DF (F:=F) h0 h1 hE' a
 have ix:∀ b,(ixP b s).2≤GQ:=fun b=>(Hz h0 h1).le
 have ip:∀ b,0≤gv (ixP b s):=fun b=>AeV
 unfold Bd
 split
 ·exact ⟨ip _,Int.le_refl _⟩
 split
 ·exact ⟨ip _,Int.le_refl _⟩
 split
 ·rw [show gv (DD (mvP F E' s (Cg y)) (mvP F E' s (Ez y)))=_ from EF (sE' _).le (sE' _).le,show gv (DD (mvP F E s (Cg y)) (mvP F E s (Ez y)))=_ from EF (sE _).le (sE _).le]
  have:=mv (Cg y);have:=mv (Ez y)
  omega
 split
 ·exact mv _
 split
 ·rw [show gv (FY (mvP F E' s (Cg y)) (mvP F E' s (Ez y)))=_ from Fa (sE' _).le (sE' _).le,show gv (FY (mvP F E s (Cg y)) (mvP F E s (Ez y)))=_ from Fa (sE _).le (sE _).le]
  have:=mv (Cg y);have:=mv (Ez y)
  omega
 split
 ·next h6 =>
  have sv:=(EA (hv h6)).abs
  have m:=GY (p:=Gv (Ai y.vn 0 y.ve)) (p':=Gv (Ai y.vn 0 y.ve)) (q:=eG E (Cg y)) (q':=eG E' (Cg y)) (Nat.le_trans (Nat.add_le_add sv.d (EL hE _).d) (by decide)) (Nat.le_trans (Nat.add_le_add sv.d (EL hE' _).d) (by decide)) (by rw [Qp];omega) (h.lo _) (Int.le_refl _) (h.le _)
  have q1:(CT (Gv (Ai y.vn 0 y.ve)) (eG E (Cg y))).2≤GQ:=(Sm.mul sv (EL hE _) (by decide)).le
  have q2:(CT (Gv (Ai y.vn 0 y.ve)) (eG E' (Cg y))).2≤GQ:=(Sm.mul sv (EL hE' _) (by decide)).le
  rw [show gv (DD (CT (Gv (Ai y.vn 0 y.ve)) (eG E' (Cg y))) _)=_ from EF q2 (ix _),show gv (DD (CT (Gv (Ai y.vn 0 y.ve)) (eG E (Cg y))) _)=_ from EF q1 (ix _)]
  have:=ip (decide (s - sG F (Cg y)+y.ve<0))
  omega
 split
 ·have sM:=fun a=>GG (ZC hR a)
  have pM:=fun a=>XG (ZC hR a)
  have m1:∀ a b,0≤gv (CT (Gw (rG R a)) (eG E' b))∧gv (CT (Gw (rG R a)) (eG E' b))≤gv (CT (Gw (rG R a)) (eG E b)):=fun a b=>GY (Nat.le_trans (Nat.add_le_add (sM a).d (EL hE b).d) (by decide)) (Nat.le_trans (Nat.add_le_add (sM a).d (EL hE' b).d) (by decide)) (pM a) (h.lo _) (Int.le_refl _) (h.le _)
  have m2:∀ a b,0≤gv (CT (eG E' a) (eG E' b))∧gv (CT (eG E' a) (eG E' b))≤gv (CT (eG E a) (eG E b)):=fun a b=>GY (Nat.le_trans (Nat.add_le_add (EL hE a).d (EL hE b).d) (by decide)) (Nat.le_trans (Nat.add_le_add (EL hE' a).d (EL hE' b).d) (by decide)) (h.lo _) (h.lo _) (h.le _) (h.le _)
  have key:∀ E0:List Pq,(∀ p∈E0,Sm p LB LB)→gv (DD (DD (DD (CT (Gw (rG R (Cg y))) (eG E0 (Ez y))) (CT (Gw (rG R (Ez y))) (eG E0 (Cg y)))) (CT (eG E0 (Cg y)) (eG E0 (Ez y)))) (ixP (decide (s - sG F (Cg y) - sG F (Ez y)<0)) s))=gv (CT (Gw (rG R (Cg y))) (eG E0 (Ez y)))+gv (CT (Gw (rG R (Ez y))) (eG E0 (Cg y)))+gv (CT (eG E0 (Cg y)) (eG E0 (Ez y)))+gv (ixP (decide (s - sG F (Cg y) - sG F (Ez y)<0)) s):=fun E0 h0=>by
   have a1:∀ a b,Sm (CT (Gw (rG R a)) (eG E0 b)) 8192 8192:=fun a b=>Sm.mul (sM a) (EL h0 b) (by decide)
   have a2:∀ a b,Sm (CT (eG E0 a) (eG E0 b)) 8192 8192:=fun a b=>Sm.mul (EL h0 a) (EL h0 b) (by decide)
   have s1:=Sm.sum (a1 (Cg y) (Ez y)) (a1 (Ez y) (Cg y)) (by decide)
   have s2:=Sm.sum s1 ((a2 (Cg y) (Ez y)).more (n':=16385) (d':=8192) (by decide) (by decide)) (by decide)
   rw [show gv (DD (DD (DD (CT (Gw (rG R (Cg y))) (eG E0 (Ez y))) (CT (Gw (rG R (Ez y))) (eG E0 (Cg y)))) (CT (eG E0 (Cg y)) (eG E0 (Ez y)))) _)=_ from EF s2.le (ix _),show gv (DD (DD (CT (Gw (rG R (Cg y))) (eG E0 (Ez y))) (CT (Gw (rG R (Ez y))) (eG E0 (Cg y)))) (CT (eG E0 (Cg y)) (eG E0 (Ez y))))=_ from EF s1.le (a2 _ _).le,show gv (DD (CT (Gw (rG R (Cg y))) (eG E0 (Ez y))) (CT (Gw (rG R (Ez y))) (eG E0 (Cg y))))=_ from EF (a1 _ _).le (a1 _ _).le]
  rw [key E hE,key E' hE']
  have:=m1 (Cg y) (Ez y);have:=m1 (Ez y) (Cg y);have:=m2 (Cg y) (Ez y);have:=ip (decide (s - sG F (Cg y) - sG F (Ez y)<0))
  omega
 have mx:∀ b,gv (FY (mvP F E' s (Cg y)) (ixP b s))=max (gv (mvP F E' s (Cg y))) (gv (ixP b s))∧gv (FY (mvP F E s (Cg y)) (ixP b s))=max (gv (mvP F E s (Cg y))) (gv (ixP b s)):=fun b=>⟨Fa (sE' _).le (ix _),Fa (sE _).le (ix _)⟩
 split
 ·rw [(mx _).1,(mx _).2]
  have:=mv (Cg y);have:=ip (!Bl y.vn y.ve s || !Bl y.un y.ue s)
  omega
 ·rw [(mx _).1,(mx _).2]
  have:=mv (Cg y);have:=ip (!Bl y.vn y.ve s)
  omega
end
def Afp (bs:List Bk) (F:List Int) (i:Nat):Option Pq:=if Bl (Pm bs i).vn (Pm bs i).ve (scA F i)=true then none else some (upQ (pw (-(scA F i))))
def UU (bs:List Bk) (F:List Int) (E:List Pq) (i:Nat):Pq:=upQ (mvP F E (scA F i) (Cg (Pm bs i)))
def AcQ (bs:List Bk) (F:List Int) (prev:Option (List Pq)) (i:Nat):Option Pq:=match prev with
 | none=>Afp bs F i
 | some E=>some (UU bs F E i)
def setO (v:List (Option Pq)) (i:Nat):Option Pq→List (Option Pq)
 | none=>v
 | some p=>v.set i (some p)
def hzD (bs:List Bk) (F:List Int) (prev:Option (List Pq)) (k:Nat):List (Option Pq):=((CA bs).take k).foldl (fun v i=>setO v i (AcQ bs F prev i)) (List.replicate bs.length none)
def hzN (ps:List Prt) (bs:List Bk) (c:Ct) (v:List (Option Pq)) (i:Nat):Pq:=upQ (Bd ps c.F c.R (gV v) (Pm bs i) (scA c.F i))
def hzS (ps:List Prt) (bs:List Bk) (c:Ct) (prev:Option (List Pq)) (t:Nat):List (Option Pq):=((Dc bs).take t).foldl (fun v i=>v.set i (some (hzN ps bs c v i))) (hzD bs c.F prev (CA bs).length)
def UD (ps:List Prt) (bs:List Bk) (c:Ct) (prev:Option (List Pq)):List Pq:=gV (hzS ps bs c prev (Dc bs).length)
def hzR (ps:List Prt) (bs:List Bk) (c:Ct):Nat→List Pq
 | 0=>UD ps bs c none
 | t+1=>UD ps bs c (some (hzR ps bs c t))
def hzL (ps:List Prt) (bs:List Bk) (c:Ct) (n:Nat):List (List Pq):=(List.range n).map (hzR ps bs c)
def AgC (ps:List Prt) (bs:List Bk) (c:Ct):Nat→Option (List Pq)
 | 0=>none
 | t+1=>some (hzR ps bs c t)
theorem AcR (ps:List Prt) (bs:List Bk) (c:Ct) (t:Nat):hzR ps bs c t=UD ps bs c (AgC ps bs c t):=by cases t <;> rfl
def Adn (bs:List Bk) (F:List Int) (E:List Pq) (i:Nat):Bool:=decide (Qs (UU bs F E i) (E[i]?.getD (0,0))≤0)
def hzC (bs:List Bk) (F:List Int) (E:List Pq):Bool:=(CA bs).all (Adn bs F E)
theorem TF {bs:List Bk} {F:List Int} {prev:Option (List Pq)} {k i:Nat} (h:(CA bs)[k]?=some i):hzD bs F prev (k+1)=setO (hzD bs F prev k) i (AcQ bs F prev i):=by
 unfold hzD
 rw [List.take_add_one,h]
 simp [List.foldl_append]
theorem TG {ps:List Prt} {bs:List Bk} {c:Ct} {prev:Option (List Pq)} {t i:Nat} (h:(Dc bs)[t]?=some i):hzS ps bs c prev (t+1)=(hzS ps bs c prev t).set i (some (hzN ps bs c (hzS ps bs c prev t) i)):=by
 unfold hzS
 rw [List.take_add_one,h]
 simp [List.foldl_append]
theorem TH (ps:List Prt) (bs:List Bk) (c:Ct) (t:Nat):hzL ps bs c (t+1)=hzL ps bs c t++[hzR ps bs c t]:=by unfold hzL;rw [List.range_succ,List.map_append];rfl
theorem Pd (ps:List Prt) (bs:List Bk) (c:Ct) (t:Nat):(hzL ps bs c t).length=t:=by simp [hzL]
theorem QH (ps:List Prt) (bs:List Bk) (c:Ct) {t k:Nat} (h:k<t):(hzL ps bs c t)[k]?=some (hzR ps bs c k):=by simp [hzL,h]
structure Dw (ps:List Prt) (bs:List Bk) (os:List Int) (c:Ct):Prop where
 he:BN ps bs os=0
 ok:AgB bs c
 ver:∀ i,i<bs.length→Ld ps bs c i=0
theorem Dw.parts {ps:List Prt} {bs:List Bk} {os:List Int} {c:Ct} (h:Dw ps bs os c) {i:Nat} {y:Bk} (hy:bs[i]?=some y) :
  DL ps c.F y i=true∧BP ps c.R y i=true∧gv (Bd ps c.F c.R c.E y (scA c.F i))≤gv (c.E[i]?.getD (0,0))∧Uy c.F c.R c.E y i=true∧0≤scA c.F i∧scA c.F i≤30:=by
 have h1:=h.ver i (List.getElem?_eq_some_iff.1 hy).1
 unfold Ld at h1
 rw [FX hy] at h1
 dsimp only at h1
 by_cases q1:DL ps c.F y i=false
 ·rw [if_pos q1] at h1;cases h1
 rw [if_neg q1] at h1
 by_cases q2:BP ps c.R y i=false
 ·rw [if_pos q2] at h1;cases h1
 rw [if_neg q2] at h1
 by_cases q3:Qs (c.E[i]?.getD (0,0)) (Bd ps c.F c.R c.E y (scA c.F i))<0
 ·rw [if_pos q3] at h1;cases h1
 rw [if_neg q3] at h1
 by_cases q4:Uy c.F c.R c.E y i=false
 ·rw [if_pos q4] at h1;cases h1
 rw [Bool.not_eq_false] at q1 q2 q4
 have hs:frB (scA c.F i)=true:=by
  have:=q1
  unfold DL at this
  exact (Bool.and_eq_true_iff.1 this).1
 have hs2:0≤scA c.F i∧scA c.F i≤30:=of_decide_eq_true hs
 have sb:=LH (ps:=ps) (F:=c.F) (y:=y) hs2.1 hs2.2 h.ok.sR h.ok.sE (fun h6=>Tp h.he hy (by rw [h6];rfl))
 exact ⟨q1,q2,(Xh (Cz h.ok.sE i).le sb.le).1 (Int.not_lt.1 q3),q4,hs2.1,hs2.2⟩
section
variable {ps:List Prt} {bs:List Bk} {os:List Int} {c:Ct}
theorem Dw.err_le (h:Dw ps bs os c) (i:Nat):0≤gv (c.E[i]?.getD (0,0))∧gv (c.E[i]?.getD (0,0))≤2147483647*2 ^ GQ:=by
 rcases he:c.E[i]? with _|p
 ·exact ⟨Int.le_of_eq Fp.symm,by rw [Option.getD_none,Fp];exact Int.mul_nonneg (by decide) (Int.le_of_lt (BR _))⟩
 ·have hi:i<bs.length:=by rw [←h.ok.lE];exact (List.getElem?_eq_some_iff.1 he).1
  obtain ⟨y,hy⟩:∃ y,bs[i]?=some y:=⟨_,List.getElem?_eq_getElem hi⟩
  obtain ⟨_,_,_,hf,s0,s1⟩:=h.parts hy
  have hp:0≤gv p:=h.ok.nE p (List.mem_of_getElem? he)
  refine ⟨hp,?_⟩
  unfold Uy at hf
  have hf:=(Bool.and_eq_true_iff.1 hf).1
  have sM:=GG (Bf h.ok.sR i)
  have sE:=Cz h.ok.sE i
  rw [Pc (Sm.sum sM sE (by decide)) (by decide) s0 s1,decide_eq_true_eq,show gv (DD (Gw (c.R[i]?.getD iZ)) (c.E[i]?.getD (0,0)))=_ from EF sM.le sE.le,he] at hf
  rw [Option.getD_some] at hf ⊢
  have hM:=XG (Bf h.ok.sR i)
  have h2:(1:Int)≤2 ^ (scA c.F i).toNat:=BR _
  have h3:(gv (Gw (c.R[i]?.getD iZ))+gv p)*1≤(gv (Gw (c.R[i]?.getD iZ))+gv p)*2 ^ (scA c.F i).toNat:=Int.mul_le_mul_of_nonneg_left h2 (by omega)
  omega
theorem AgD {p:Pq} (hn:Nf p.1 p.2) (hd:p.2≤62) (h0:0≤gv p) (h1:gv p≤2147483647*2 ^ GQ):Sm p 128 62:=by
 refine ⟨hn,?_,hd⟩
 have hp:=BR (GQ - p.2)
 have e:(2:Int) ^ GQ=2 ^ p.2*2 ^ (GQ - p.2):=by rw [←Int.pow_add];congr 1;have:=hn.le;omega
 unfold gv at h0 h1
 rw [e,←Int.mul_assoc] at h1
 have h2:p.1≤2147483647*2 ^ p.2:=Int.le_of_mul_le_mul_right h1 hp
 have h3:0≤p.1:=Classical.byContradiction fun hn=>by
  have:=Int.mul_neg_of_neg_of_pos (show p.1<0 by omega) hp
  omega
 have h4:(2:Int) ^ p.2≤2 ^ 62:=by
  have h5:=Nat.pow_le_pow_right (n:=2) (by decide) hd
  exact_mod_cast h5
 have h6:p.1<2 ^ 128:=by
  have:(2147483647:Int)*2 ^ p.2≤2147483647*2 ^ 62:=Int.mul_le_mul_of_nonneg_left h4 (by decide)
  have h7:(2147483647:Int)*2 ^ 62<2 ^ 128:=by decide
  omega
 have h8:((p.1.natAbs:Nat):Int)<((2 ^ 128:Nat):Int):=by
  rw [Int.natAbs_of_nonneg h3]
  exact_mod_cast h6
 exact_mod_cast h8
structure GdE (bs:List Bk) (E:List Pq) (v:List (Option Pq)):Prop where
 len:v.length=bs.length
 at_:∀ (i:Nat) (p:Pq),v[i]?=some (some p)→Sm p 128 62∧0≤gv p∧gv p≤gv (E[i]?.getD (0,0))
theorem GdE.new (bs:List Bk) (E:List Pq):GdE bs E (List.replicate bs.length none):=⟨List.length_replicate ..,fun i p hp=>by
 rw [List.getElem?_replicate] at hp
 split at hp <;> cases hp⟩
theorem GdE.set {E:List Pq} {v:List (Option Pq)} (h:GdE bs E v) {i:Nat} {p:Pq} (hs:Sm p 128 62) (h0:0≤gv p) (h1:gv p≤gv (E[i]?.getD (0,0))):GdE bs E (v.set i (some p)):=⟨by rw [List.length_set];exact h.len,fun j q hq=>by
 rw [List.getElem?_set] at hq
 split at hq
 ·rename_i hij
  subst hij
  split at hq
  ·cases hq;exact ⟨hs,h0,h1⟩
  ·cases hq
 ·exact h.at_ j q hq⟩
theorem AeW (v:List (Option Pq)) (i:Nat):(gV v)[i]?.getD (0,0)=(v[i]?.getD none).getD (0,0):=by
 unfold gV
 rw [List.getElem?_map]
 cases v[i]? <;> rfl
theorem GdE.sm {E:List Pq} {v:List (Option Pq)} (h:GdE bs E v):∀ p∈gV v,Sm p 128 62:=fun p hp=>by
 obtain ⟨o,ho,rfl⟩:=List.mem_map.1 hp
 cases o with
 | none=>exact Sm.zero _ _
 | some q =>
  obtain ⟨i,hi⟩:=List.getElem?_of_mem ho
  exact (h.at_ i q hi).1
theorem GdE.inE {E:List Pq} {v:List (Option Pq)} (h:GdE bs E v) (hE:∀ i:Nat,0≤gv (E[i]?.getD (0,0))):InE (gV v) E:=by
 have key:∀ k:Nat,0≤gv ((gV v)[k]?.getD (0,0))∧gv ((gV v)[k]?.getD (0,0))≤gv (E[k]?.getD (0,0)):=fun k=>by
  rw [AeW]
  rcases hv:v[k]? with _|o
  ·exact ⟨Int.le_of_eq Fp.symm,by rw [show ((none:Option (Option Pq)).getD none).getD (0,0)=((0,0):Pq) from rfl,Fp];exact hE k⟩
  ·cases o with
   | none=>exact ⟨Int.le_of_eq Fp.symm,by rw [show ((some none:Option (Option Pq)).getD none).getD (0,0)=((0,0):Pq) from rfl,Fp];exact hE k⟩
   | some p=>exact (h.at_ k p hv).2
 exact ⟨fun k=>(key k).1,fun k=>(key k).2⟩
theorem AeX {x:Pq} (hx:Nf x.1 x.2):Nf (upQ x).1 (upQ x).2∧(upQ x).2≤62:=by
 have h1:Sm (XZ x) (x.1.natAbs+1) x.2:=⟨⟨hx.1,fun h0=>by have:=hx.2 h0;show (-x.1) % 2=1;omega⟩,by show (-x.1).natAbs<_;rw [Int.natAbs_neg];exact Nat.lt_of_lt_of_le Nat.lt_two_pow_self (Nat.pow_le_pow_right (by decide) (by omega)),Nat.le_refl _⟩
 have:=(TD h1 (den:=62) (by decide)).neg
 exact ⟨this.ok,this.d⟩
theorem Dw.up_in (h:Dw ps bs os c) (hup:∀ p∈c.E,gv (upQ p)=gv p) {i:Nat} (hi:i<bs.length) {x:Pq} {n d:Nat} (hx:Sm x n d) (h0:0≤gv x) (h1:gv x≤gv (c.E[i]?.getD (0,0))):Sm (upQ x) 128 62∧0≤gv (upQ x)∧gv (upQ x)≤gv (c.E[i]?.getD (0,0)):=by
 obtain ⟨p,hp⟩:∃ p,c.E[i]?=some p:=⟨_,List.getElem?_eq_getElem (by rw [h.ok.lE];exact hi)⟩
 have hm:=List.mem_of_getElem? hp
 have hb:=h.err_le i
 rw [hp,Option.getD_some] at h1 hb ⊢
 have h2:gv (upQ x)≤gv p:=by rw [←hup p hm];exact AcP hx.le (h.ok.sE p hm).le h1
 have h3:=AeU hx.le h0
 have h4:=AeX hx.ok
 exact ⟨AgD h4.1 h4.2 h3 (by omega),h3,h2⟩
theorem Dw.nn (h:Dw ps bs os c):∀ i:Nat,0≤gv (c.E[i]?.getD (0,0)):=fun i=>(h.err_le i).1
theorem Pe {E:List Pq} (h:∀ p∈E,Sm p 128 62):∀ p∈E,Sm p LB LB:=fun p hp=>(h p hp).more (by decide) (by decide)
theorem Dw.del_in (h:Dw ps bs os c) (hup:∀ p∈c.E,gv (upQ p)=gv p) {prev:Option (List Pq)} (hp:∀ E,prev=some E→(∀ p∈E,Sm p 128 62)∧InE E c.E) {k i:Nat} (hi:(CA bs)[k]?=some i) {p:Pq} (hq:AcQ bs c.F prev i=some p):Sm p 128 62∧0≤gv p∧gv p≤gv (c.E[i]?.getD (0,0)):=by
 obtain ⟨hil,hik⟩:=Xd hi
 obtain ⟨y,hy⟩:∃ y,bs[i]?=some y:=⟨_,List.getElem?_eq_getElem hil⟩
 obtain ⟨_,_,hb,_,s0,s1⟩:=h.parts hy
 have hyk:y.kind=2:=by rw [←OM hy];exact hik
 have hbe:Bd ps c.F c.R c.E y (scA c.F i)=FY (mvP c.F c.E (scA c.F i) (Cg y)) (ixP (!Bl y.vn y.ve (scA c.F i)) (scA c.F i)):=by unfold Bd;simp [hyk]
 have sm:=DF (F:=c.F) s0 s1 h.ok.sE (Cg y)
 have si:=Hz (b:=!Bl y.vn y.ve (scA c.F i)) s0 s1
 rw [hbe,show gv (FY (mvP c.F c.E (scA c.F i) (Cg y)) (ixP (!Bl y.vn y.ve (scA c.F i)) (scA c.F i)))=_ from Fa sm.le si.le] at hb
 unfold AcQ at hq
 cases prev with
 | none =>
  unfold Afp at hq
  dsimp only at hq
  rw [FX hy] at hq
  by_cases hw:Bl y.vn y.ve (scA c.F i)=true
  ·rw [if_pos hw] at hq;cases hq
  ·rw [if_neg hw] at hq
   cases hq
   have e:ixP (!Bl y.vn y.ve (scA c.F i)) (scA c.F i)=pw (-(scA c.F i)):=by unfold ixP;rw [Bool.not_eq_true] at hw;rw [hw];rfl
   rw [e] at hb
   exact h.up_in hup hil (IC s0 s1) (by rw [AeT s0 s1];exact Int.le_of_lt (BR _)) (by omega)
 | some E =>
  dsimp only at hq
  cases hq
  obtain ⟨hE,hI⟩:=hp E rfl
  have hm:=XF (F:=c.F) s0 s1 h.ok.sE (Pe hE) hI (Cg y)
  unfold UU
  rw [FX hy]
  exact h.up_in hup hil (DF (F:=c.F) s0 s1 (Pe hE) (Cg y)) hm.1 (by omega)
theorem Dw.D_in (h:Dw ps bs os c) (hup:∀ p∈c.E,gv (upQ p)=gv p) {prev:Option (List Pq)} (hp:∀ E,prev=some E→(∀ p∈E,Sm p 128 62)∧InE E c.E):∀ k,k≤(CA bs).length→GdE bs c.E (hzD bs c.F prev k)
 | 0,_=>by unfold hzD;exact GdE.new _ _
 | k+1,hk=>by
  have ih:=h.D_in hup hp k (by omega)
  obtain ⟨i,hi⟩:∃ i,(CA bs)[k]?=some i:=⟨_,List.getElem?_eq_getElem (by omega)⟩
  rw [TF hi]
  rcases hq:AcQ bs c.F prev i with _|p
  ·exact ih
  ·obtain ⟨a,b,d⟩:=h.del_in hup hp hi hq
   exact ih.set a b d
theorem Dw.next_in (h:Dw ps bs os c) (hup:∀ p∈c.E,gv (upQ p)=gv p) {v:List (Option Pq)} (hv:GdE bs c.E v) {i:Nat} (hi:i<bs.length):Sm (hzN ps bs c v i) 128 62∧0≤gv (hzN ps bs c v i)∧gv (hzN ps bs c v i)≤gv (c.E[i]?.getD (0,0)):=by
 obtain ⟨y,hy⟩:∃ y,bs[i]?=some y:=⟨_,List.getElem?_eq_getElem hi⟩
 obtain ⟨_,_,hb,_,s0,s1⟩:=h.parts hy
 have hsc:y.kind=6→EW y.vn y.ve:=fun h6=>Tp h.he hy (by rw [h6];rfl)
 have hE:=Pe hv.sm
 obtain ⟨b0,b1⟩:=UC (ps:=ps) (F:=c.F) s0 s1 h.ok.sR h.ok.sE hE hsc (hv.inE h.nn)
 unfold hzN
 rw [FX hy]
 exact h.up_in hup hi (LH s0 s1 h.ok.sR hE hsc) b0 (by omega)
theorem Dw.S_in (h:Dw ps bs os c) (hup:∀ p∈c.E,gv (upQ p)=gv p) {prev:Option (List Pq)} (hp:∀ E,prev=some E→(∀ p∈E,Sm p 128 62)∧InE E c.E):∀ t,t≤(Dc bs).length→GdE bs c.E (hzS ps bs c prev t)
 | 0,_=>by unfold hzS;exact h.D_in hup hp _ (Nat.le_refl _)
 | t+1,ht=>by
  have ih:=h.S_in hup hp t (by omega)
  obtain ⟨i,hi⟩:∃ i,(Dc bs)[t]?=some i:=⟨_,List.getElem?_eq_getElem (by omega)⟩
  obtain ⟨a,b,d⟩:=h.next_in hup ih (Aap hi).1
  rw [TG hi]
  exact ih.set a b d
theorem Dw.R_in (h:Dw ps bs os c) (hup:∀ p∈c.E,gv (upQ p)=gv p):∀ t,(hzR ps bs c t).length=bs.length∧(∀ p∈hzR ps bs c t,Sm p 128 62)∧InE (hzR ps bs c t) c.E:=by
 have key:∀ prev:Option (List Pq),(∀ E,prev=some E→(∀ p∈E,Sm p 128 62)∧InE E c.E)→(UD ps bs c prev).length=bs.length∧(∀ p∈UD ps bs c prev,Sm p 128 62)∧InE (UD ps bs c prev) c.E:=fun prev hp=>by
  have g:=h.S_in hup hp _ (Nat.le_refl _)
  exact ⟨(WX _).trans g.len,g.sm,g.inE h.nn⟩
 intro t
 induction t with
 | zero=>exact key none fun E he=>by cases he
 | succ t ih=>exact key (some (hzR ps bs c t)) fun E he=>by cases he;exact ih.2
theorem Dw.P_in (h:Dw ps bs os c) (hup:∀ p∈c.E,gv (upQ p)=gv p) (t:Nat):∀ E,AgC ps bs c t=some E→E.length=bs.length∧(∀ p∈E,Sm p 128 62)∧InE E c.E:=fun E he=>by
 cases t with
 | zero=>cases he
 | succ t=>cases he;exact h.R_in hup t
theorem Dw.not_far (h:Dw ps bs os c) {E:List Pq} (hs:∀ p∈E,Sm p 128 62) (hI:InE E c.E):∀ p∈E,Afn p=false:=fun p hp=>by
 obtain ⟨i,hi⟩:=List.getElem?_of_mem hp
 have h1:=hI.le i
 rw [hi,Option.getD_some] at h1
 have h2:=(h.err_le i).2
 have h3:=BR GQ
 unfold Afn
 refine decide_eq_false fun hn=>?_
 have:=(My (p:=p) (q:=(1099511627776,0)) (hs p hp).le (by decide)).2 (by rw [Mz];omega)
 exact absurd hn (Int.not_lt.2 this)
theorem Dw.fits_in (h:Dw ps bs os c) {E:List Pq} (hs:∀ p∈E,Sm p 128 62) (hI:InE E c.E) {i:Nat} {y:Bk} (hy:bs[i]?=some y):Uy c.F c.R E y i=true:=by
 obtain ⟨_,_,_,hf,s0,s1⟩:=h.parts hy
 have hE:=Pe hs
 have key:∀ {M:Pq} (k:Nat),Sm M LB LB→Fb (DD M (c.E[k]?.getD (0,0))) (scA c.F i)=true→Fb (DD M (E[k]?.getD (0,0))) (scA c.F i)=true:=fun {M} k sM hk=>by
  have sE:=Cz h.ok.sE k
  have sE':=Cz hE k
  rw [Pc (Sm.sum sM sE (by decide)) (by decide) s0 s1,decide_eq_true_eq,show gv (DD M (c.E[k]?.getD (0,0)))=_ from EF sM.le sE.le] at hk
  rw [Pc (Sm.sum sM sE' (by decide)) (by decide) s0 s1,decide_eq_true_eq,show gv (DD M (E[k]?.getD (0,0)))=_ from EF sM.le sE'.le]
  have:=hI.le k
  have h3:(gv M+gv (E[k]?.getD (0,0)))*2 ^ (scA c.F i).toNat≤(gv M+gv (c.E[k]?.getD (0,0)))*2 ^ (scA c.F i).toNat:=Int.mul_le_mul_of_nonneg_right (by omega) (Int.le_of_lt (BR _))
  omega
 unfold Uy at hf ⊢
 rw [Bool.and_eq_true,Bool.or_eq_true] at hf ⊢
 exact ⟨key i (GG (Bf h.ok.sR i)) hf.1,hf.2.imp id fun q=>key (Cg y).toNat (ZC h.ok.sR _).s2 q⟩
end
end Go.Proofs.YtmdfjbpggbhgnaaGreatDoor
