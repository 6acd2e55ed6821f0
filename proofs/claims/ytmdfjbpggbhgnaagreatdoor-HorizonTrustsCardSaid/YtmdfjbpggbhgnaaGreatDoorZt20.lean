/- What the proofs of this claim share, part 20. No conditions. -/
import Derived.Test.YtmdfjbpggbhgnaaGreatDoorZt19
set_option maxRecDepth 100000
set_option maxHeartbeats 8000000
set_option linter.unusedVariables false
set_option linter.unusedSimpArgs false
set_option linter.unusedSectionVars false
namespace Go.Proofs.YtmdfjbpggbhgnaaGreatDoor
open Go.RowKit
theorem Ck (t u:Bool) (c:Ct) (y:Bk) (k:Nat) {r:Nat} (hk:y.args[k]?=some (r:Int)) (hr:r<c.R.length) (ha:y.args.length≤1000000) (hv:c.R.length≤1000000):CV Tryz.prog Ax 137 [aI (k:Int),.one (.ptr true (dCt u c)),.one (.ptr true (dBk t y))] [aIw false (c.R[r]?.getD iZ)]:=by
 refine cvz Tryz.func137 Tryz.ntmps137 ?_
 have l1:=(List.getElem?_eq_some_iff.1 hk).1
 repeat' (with_reducible first|refine qq ?_|(refine Tx 0 ?_;refine Jn (xAl Ao) ?_)|(refine Ba (id:=1) 9 AK (by kernel_rfl) ?_;dsimp only [List.take,List.drop];refine kF ?_;refine kD ?_;refine kF ?_;refine kD ?_;refine Km ?_;refine Ko (by first|exact xIr Ab (Ak hk)|exact xIr Ab (TE hr)) ?_;refine kD ?_;refine Ko (xIr Af (TE hr)) ?_;refine kA ?_;refine Ke ?_;refine Js (xSk Ag) ?_))
 exact Ap rfl (.cons_ (rvJ Ag rfl) .nil_)
theorem RY (t u:Bool) {ps:List Prt} {bs:List Bk} (os:List Int) (c:Ct) (i:Nat) {y:Bk} (hy:bs[i]?=some y) (B:XD ps bs.length y) (hR:c.R.length=bs.length) (sR:∀ p∈c.R,IwS p LB LB) (hn:bs.length≤1000000) (hpn:ps.length≤1000000):CV Tryz.prog Ax 59 [aDg t ps bs os,.agg (dCt u c),aI (i:Int)] [aB (BP ps c.R y i)]:=by
 refine cvz Tryz.func59 Tryz.ntmps59 ?_
 have hil:=(List.getElem?_eq_some_iff.1 hy).1
 have hBl:=B.len
 have wi:=(Bf sR i).more (show LB≤20000 by decide) (show LB≤20000 by decide)
 have hwi:=TE (R:=c.R) (k:=i) (by omega)
 rcases B.hk with h|h|h|h|h|h|h|h|h|h|h|h
 ·
  obtain ⟨j,pp,hA0,ha0,hp,PS⟩:=B.port h
  have l3:=(List.getElem?_eq_some_iff.1 hp).1
  have hL0:=(List.getElem?_eq_some_iff.1 hA0).1
  have f0:=PS.l0
  have f1:=PS.le
  have f2:=PS.h1
  have f3:=PS.f0
  have f4:=PS.f1
  have IN:=Qz pp.lo pp.hi (by omega) (by omega)
  have UN:=HG pp.fr f3 f4
  have SC:=Gm (De [(pp.lo,0),(pp.hi,0)]) (pw (-pp.fr)) (Ga (GV pp.lo (by omega) (by decide)) (GV pp.hi (by omega) (by decide))).2.2 ((IC f3 f4).more (by decide) (by decide))
  rw [show FZ (De [(pp.lo,0),(pp.hi,0)]) (pw (-pp.fr))=IB pp from PS.scale] at SC
  have hb:El ps c.R y=IB pp:=by unfold El CI;rw [if_neg (by omega),if_pos h,hA0];simp [hp]
  have ws:IwS (IB pp) 20000 20000:=PS.iw.more (by decide) (by decide)
  unfold BP
  rw [hb]
  have IS:=Be _ _ ws wi
  repeat' (with_reducible first|refine qq ?_|(refine Tx 0 ?_;refine Jn xBo ?_;refine Jn xBo ?_;refine Ja ?_)|(refine Tx 1 ?_;refine jF ?_;refine jD ?_;refine Jm ?_;refine Jo (by first|exact xIr Ae (Bo hy)|exact xIr Ae (hwi)) ?_;refine jA ?_;refine Jn (xAl Aw) ?_;refine Js (xSk Au) ?_)|(refine Tx 2 ?_;refine Jo (by first|exact xMf [(1,0,none),(2,0,none)]|exact Ah rfl (by repeat' first|exact AC rfl rfl|refine Ay rfl rfl rfl ?_)) ?_;refine Ja ?_)|(refine Tx 3 ?_;refine Jn (xAl Ao) ?_)|(refine Tx 4 ?_;refine jF ?_;refine jD ?_)|(refine Tx 6 ?_;refine Jo xEq ?_;refine Ja ?_)|(refine Ba (id:=7) 9 AK (by kernel_rfl) ?_;dsimp only [List.take,List.drop];refine kF ?_;refine kD ?_;refine kF ?_;refine kD ?_;refine Ko (by first|exact xIr Ab (hwi)|exact xIr Ab (Ak hA0)) ?_;refine kD ?_;refine Ko (by first|exact xIr CS (hwi)|exact xIr CS (ND hp)) ?_;refine kA ?_;refine Kn (xAl Rd) ?_;refine Ke ?_;refine Js (xSk FM) ?_)|(refine Ba (id:=8) 9 AK (by kernel_rfl) ?_;dsimp only [List.take,List.drop];refine kF ?_;refine kD ?_;refine kF ?_;refine kD ?_;refine Ko (xCl Tryz.func139 (IN)) ?_;refine kF ?_;refine kD ?_;refine Ko (xCl Tryz.func64 (UN)) ?_;refine Ko (xCl Tryz.func138 (SC)) ?_;refine Ke ?_;refine Js (xSk Ag) ?_)|(refine AZ (id:=29) AK (by kernel_rfl) ?_;refine kA ?_;refine kF ?_;refine kD ?_;refine Km ?_;refine Ko (xIr Af (hwi)) ?_;refine kA ?_;refine Ko (xCl Tryz.func151 (IS)) ?_;refine Ka ?_;refine Ke ?_))
  exact Ap rfl (.cons_ (BL rfl (rfl)) .nil_)
 ·
  have hv:=B.sv (by omega)
  have RV:=Fv y.vn y.ve hv
  have sv:=(EA hv).more (show LB≤20000 by decide) (show LB≤20000 by decide)
  have PT:=Dn (Ai y.vn 0 y.ve) sv.ok (Nat.le_trans (sv.lenN 625 (by decide)) (by decide))
  have hb:El ps c.R y=((Ai y.vn 0 y.ve),(Ai y.vn 0 y.ve)):=by unfold El CI Dj;simp [h]
  have ws:IwS (((Ai y.vn 0 y.ve),(Ai y.vn 0 y.ve))) 20000 20000:=by
   have:=Dp (y:=y) (Cb (y:=y) sR) (fun h2=>B.sv (by omega)) (fun h2=>B.su h2) (by omega)
   rw [show Dj y (BX c.R y)=((Ai y.vn 0 y.ve),(Ai y.vn 0 y.ve)) by unfold Dj;simp [h]] at this
   exact this.more (by decide) (by decide)
  unfold BP
  rw [hb]
  have IS:=Be _ _ ws wi
  repeat' (with_reducible first|refine qq ?_|(refine Tx 0 ?_;refine Jn xBo ?_;refine Jn xBo ?_;refine Ja ?_)|(refine Tx 1 ?_;refine jF ?_;refine jD ?_;refine Jm ?_;refine Jo (by first|exact xIr Ae (Bo hy)|exact xIr Ae (hwi)) ?_;refine jA ?_;refine Jn (xAl Aw) ?_;refine Js (xSk Au) ?_)|(refine Tx 2 ?_;refine Jo (by first|exact xMf [(1,0,none),(2,0,none)]|exact Ah rfl (by repeat' first|exact AC rfl rfl|refine Ay rfl rfl rfl ?_)) ?_;refine Ja ?_)|(refine Tx 3 ?_;refine Jn (xAl Ao) ?_)|(refine Tx 4 ?_;refine jF ?_;refine jD ?_)|(refine Tx 6 ?_;refine Jo xEq ?_;refine Ja ?_)|(refine Tx 9 ?_;refine Jo xEq ?_;refine Ja ?_)|(refine Tx 10 ?_;refine jF ?_;refine jA ?_;refine Jo (xCl Tryz.func141 (RV)) ?_;refine Jo (xCl Tryz.func140 (PT)) ?_;refine Js (xSk Ag) ?_)|(refine AZ (id:=29) AK (by kernel_rfl) ?_;refine kA ?_;refine kF ?_;refine kD ?_;refine Km ?_;refine Ko (xIr Af (hwi)) ?_;refine kA ?_;refine Ko (xCl Tryz.func151 (IS)) ?_;refine Ka ?_;refine Ke ?_))
  exact Ap rfl (.cons_ (BL rfl (rfl)) .nil_)
 ·
  obtain ⟨a,hA0,ha0,hl0⟩:=B.a0 (by omega)
  have hl0:=hl0 (by omega)
  have hL0:=(List.getElem?_eq_some_iff.1 hA0).1
  obtain ⟨P,hP⟩:∃ P,c.R[a]?.getD iZ=P:=⟨_,rfl⟩
  have sp:=(Bf sR a).more (show LB≤20000 by decide) (show LB≤20000 by decide)
  have A0:=Ck t u c y 0 hA0 (by omega) (by omega) (by omega)
  have hj0:(BX c.R y)[0]?=some P:=Br (by omega) hA0 (by rw [Int.toNat_natCast,←hP];exact GX (by omega))
  rw [hP] at sp A0
  have hv:=B.sv (by omega)
  have RV:=Fv y.vn y.ve hv
  have sv:=(EA hv).more (show LB≤20000 by decide) (show LB≤20000 by decide)
  have PT:=Dn (Ai y.vn 0 y.ve) sv.ok (Nat.le_trans (sv.lenN 625 (by decide)) (by decide))
  have C:=QA ((Ai y.vn 0 y.ve),(Ai y.vn 0 y.ve)) P (.pt sv) sp
  have hb:El ps c.R y=Qt ((Ai y.vn 0 y.ve),(Ai y.vn 0 y.ve)) P:=by unfold El;rw [if_pos h,ha0,IV,hP]
  have ws:IwS (Qt ((Ai y.vn 0 y.ve),(Ai y.vn 0 y.ve)) P) 20000 20000:=(IwS.pt (EA hv)).hull (hP ▸ Bf sR a) |>.more (show LB≤20000 by decide) (show LB≤20000 by decide)
  unfold BP
  rw [hb]
  have IS:=Be _ _ ws wi
  repeat' (with_reducible first|refine qq ?_|(refine Tx 0 ?_;refine Jn xBo ?_;refine Jn xBo ?_;refine Ja ?_)|(refine Tx 1 ?_;refine jF ?_;refine jD ?_;refine Jm ?_;refine Jo (by first|exact xIr Ae (Bo hy)|exact xIr Ae (hwi)) ?_;refine jA ?_;refine Jn (xAl Aw) ?_;refine Js (xSk Au) ?_)|(refine Tx 2 ?_;refine Jo (by first|exact xMf [(1,0,none),(2,0,none)]|exact Ah rfl (by repeat' first|exact AC rfl rfl|refine Ay rfl rfl rfl ?_)) ?_;refine Ja ?_)|(refine Tx 3 ?_;refine Jn (xAl Ao) ?_)|(refine Tx 4 ?_;refine jF ?_;refine jD ?_)|(refine Tx 6 ?_;refine Jo xEq ?_;refine Ja ?_)|(refine Tx 9 ?_;refine Jo xEq ?_;refine Ja ?_)|(refine Tx 11 ?_;refine Jo xEq ?_;refine Ja ?_)|(refine Tx 12 ?_;refine jF ?_;refine jA ?_;refine Jo (xCl Tryz.func141 (RV)) ?_;refine Jo (xCl Tryz.func140 (PT)) ?_;refine Jm ?_;refine Jo (xCc Tryz.func137 A0 (args:=[_]) rfl) ?_;refine Jo (xCl Tryz.func142 (C)) ?_;refine Js (xSk Ag) ?_)|(refine AZ (id:=29) AK (by kernel_rfl) ?_;refine kA ?_;refine kF ?_;refine kD ?_;refine Km ?_;refine Ko (xIr Af (hwi)) ?_;refine kA ?_;refine Ko (xCl Tryz.func151 (IS)) ?_;refine Ka ?_;refine Ke ?_))
  exact Ap rfl (.cons_ (BL rfl (rfl)) .nil_)
 ·
  obtain ⟨a,hA0,ha0,hl0⟩:=B.a0 (by omega)
  have hl0:=hl0 (by omega)
  have hL0:=(List.getElem?_eq_some_iff.1 hA0).1
  obtain ⟨P,hP⟩:∃ P,c.R[a]?.getD iZ=P:=⟨_,rfl⟩
  have sp:=(Bf sR a).more (show LB≤20000 by decide) (show LB≤20000 by decide)
  have A0:=Ck t u c y 0 hA0 (by omega) (by omega) (by omega)
  have hj0:(BX c.R y)[0]?=some P:=Br (by omega) hA0 (by rw [Int.toNat_natCast,←hP];exact GX (by omega))
  rw [hP] at sp A0
  obtain ⟨b,hA1,ha1,hl1⟩:=B.a1 (by omega)
  have hL1:=(List.getElem?_eq_some_iff.1 hA1).1
  obtain ⟨Q,hQ⟩:∃ Q,c.R[b]?.getD iZ=Q:=⟨_,rfl⟩
  have sq:=(Bf sR b).more (show LB≤20000 by decide) (show LB≤20000 by decide)
  have A1:=Ck t u c y 1 hA1 (by omega) (by omega) (by omega)
  have hj1:(BX c.R y)[1]?=some Q:=Br (by omega) hA1 (by rw [Int.toNat_natCast,←hQ];exact GX (by omega))
  rw [hQ] at sq A1
  have C:=OU P Q sp sq
  have hb:El ps c.R y=Ya P Q:=by unfold El CI Dj;simp [h,hj0,hj1]
  have ws:IwS (Ya P Q) 20000 20000:=by
   have:=Dp (y:=y) (Cb (y:=y) sR) (fun h2=>B.sv (by omega)) (fun h2=>B.su h2) (by omega)
   rw [show Dj y (BX c.R y)=Ya P Q by unfold Dj;simp [h,hj0,hj1]] at this
   exact this.more (by decide) (by decide)
  unfold BP
  rw [hb]
  have IS:=Be _ _ ws wi
  repeat' (with_reducible first|refine qq ?_|(refine Tx 0 ?_;refine Jn xBo ?_;refine Jn xBo ?_;refine Ja ?_)|(refine Tx 1 ?_;refine jF ?_;refine jD ?_;refine Jm ?_;refine Jo (by first|exact xIr Ae (Bo hy)|exact xIr Ae (hwi)) ?_;refine jA ?_;refine Jn (xAl Aw) ?_;refine Js (xSk Au) ?_)|(refine Tx 2 ?_;refine Jo (by first|exact xMf [(1,0,none),(2,0,none)]|exact Ah rfl (by repeat' first|exact AC rfl rfl|refine Ay rfl rfl rfl ?_)) ?_;refine Ja ?_)|(refine Tx 3 ?_;refine Jn (xAl Ao) ?_)|(refine Tx 4 ?_;refine jF ?_;refine jD ?_)|(refine Tx 6 ?_;refine Jo xEq ?_;refine Ja ?_)|(refine Tx 9 ?_;refine Jo xEq ?_;refine Ja ?_)|(refine Tx 11 ?_;refine Jo xEq ?_;refine Ja ?_)|(refine Tx 13 ?_;refine Jo xEq ?_;refine Ja ?_)|(refine Tx 14 ?_;refine Jm ?_;refine Jo (xCc Tryz.func137 A0 (args:=[_]) rfl) ?_;refine Jm ?_;refine Jo (xCc Tryz.func137 A1 (args:=[_]) rfl) ?_;refine Jo (xCl Tryz.func143 (C)) ?_;refine Js (xSk Ag) ?_)|(refine AZ (id:=29) AK (by kernel_rfl) ?_;refine kA ?_;refine kF ?_;refine kD ?_;refine Km ?_;refine Ko (xIr Af (hwi)) ?_;refine kA ?_;refine Ko (xCl Tryz.func151 (IS)) ?_;refine Ka ?_;refine Ke ?_))
  exact Ap rfl (.cons_ (BL rfl (rfl)) .nil_)
 ·
  obtain ⟨a,hA0,ha0,hl0⟩:=B.a0 (by omega)
  have hl0:=hl0 (by omega)
  have hL0:=(List.getElem?_eq_some_iff.1 hA0).1
  obtain ⟨P,hP⟩:∃ P,c.R[a]?.getD iZ=P:=⟨_,rfl⟩
  have sp:=(Bf sR a).more (show LB≤20000 by decide) (show LB≤20000 by decide)
  have A0:=Ck t u c y 0 hA0 (by omega) (by omega) (by omega)
  have hj0:(BX c.R y)[0]?=some P:=Br (by omega) hA0 (by rw [Int.toNat_natCast,←hP];exact GX (by omega))
  rw [hP] at sp A0
  obtain ⟨b,hA1,ha1,hl1⟩:=B.a1 (by omega)
  have hL1:=(List.getElem?_eq_some_iff.1 hA1).1
  obtain ⟨Q,hQ⟩:∃ Q,c.R[b]?.getD iZ=Q:=⟨_,rfl⟩
  have sq:=(Bf sR b).more (show LB≤20000 by decide) (show LB≤20000 by decide)
  have A1:=Ck t u c y 1 hA1 (by omega) (by omega) (by omega)
  have hj1:(BX c.R y)[1]?=some Q:=Br (by omega) hA1 (by rw [Int.toNat_natCast,←hQ];exact GX (by omega))
  rw [hQ] at sq A1
  have C:=TA P Q sp sq
  have hb:El ps c.R y=Zt P Q:=by unfold El CI Dj;simp [h,hj0,hj1]
  have ws:IwS (Zt P Q) 20000 20000:=by
   have:=Dp (y:=y) (Cb (y:=y) sR) (fun h2=>B.sv (by omega)) (fun h2=>B.su h2) (by omega)
   rw [show Dj y (BX c.R y)=Zt P Q by unfold Dj;simp [h,hj0,hj1]] at this
   exact this.more (by decide) (by decide)
  unfold BP
  rw [hb]
  have IS:=Be _ _ ws wi
  repeat' (with_reducible first|refine qq ?_|(refine Tx 0 ?_;refine Jn xBo ?_;refine Jn xBo ?_;refine Ja ?_)|(refine Tx 1 ?_;refine jF ?_;refine jD ?_;refine Jm ?_;refine Jo (by first|exact xIr Ae (Bo hy)|exact xIr Ae (hwi)) ?_;refine jA ?_;refine Jn (xAl Aw) ?_;refine Js (xSk Au) ?_)|(refine Tx 2 ?_;refine Jo (by first|exact xMf [(1,0,none),(2,0,none)]|exact Ah rfl (by repeat' first|exact AC rfl rfl|refine Ay rfl rfl rfl ?_)) ?_;refine Ja ?_)|(refine Tx 3 ?_;refine Jn (xAl Ao) ?_)|(refine Tx 4 ?_;refine jF ?_;refine jD ?_)|(refine Tx 6 ?_;refine Jo xEq ?_;refine Ja ?_)|(refine Tx 9 ?_;refine Jo xEq ?_;refine Ja ?_)|(refine Tx 11 ?_;refine Jo xEq ?_;refine Ja ?_)|(refine Tx 13 ?_;refine Jo xEq ?_;refine Ja ?_)|(refine Tx 15 ?_;refine Jo xEq ?_;refine Ja ?_)|(refine Tx 16 ?_;refine Jm ?_;refine Jo (xCc Tryz.func137 A0 (args:=[_]) rfl) ?_;refine Jm ?_;refine Jo (xCc Tryz.func137 A1 (args:=[_]) rfl) ?_;refine Jo (xCl Tryz.func144 (C)) ?_;refine Js (xSk Ag) ?_)|(refine AZ (id:=29) AK (by kernel_rfl) ?_;refine kA ?_;refine kF ?_;refine kD ?_;refine Km ?_;refine Ko (xIr Af (hwi)) ?_;refine kA ?_;refine Ko (xCl Tryz.func151 (IS)) ?_;refine Ka ?_;refine Ke ?_))
  exact Ap rfl (.cons_ (BL rfl (rfl)) .nil_)
 ·
  obtain ⟨a,hA0,ha0,hl0⟩:=B.a0 (by omega)
  have hl0:=hl0 (by omega)
  have hL0:=(List.getElem?_eq_some_iff.1 hA0).1
  obtain ⟨P,hP⟩:∃ P,c.R[a]?.getD iZ=P:=⟨_,rfl⟩
  have sp:=(Bf sR a).more (show LB≤20000 by decide) (show LB≤20000 by decide)
  have A0:=Ck t u c y 0 hA0 (by omega) (by omega) (by omega)
  have hj0:(BX c.R y)[0]?=some P:=Br (by omega) hA0 (by rw [Int.toNat_natCast,←hP];exact GX (by omega))
  rw [hP] at sp A0
  have C:=OT P sp
  have hb:El ps c.R y=Xi P:=by unfold El CI Dj;simp [h,hj0]
  have ws:IwS (Xi P) 20000 20000:=by
   have:=Dp (y:=y) (Cb (y:=y) sR) (fun h2=>B.sv (by omega)) (fun h2=>B.su h2) (by omega)
   rw [show Dj y (BX c.R y)=Xi P by unfold Dj;simp [h,hj0]] at this
   exact this.more (by decide) (by decide)
  unfold BP
  rw [hb]
  have IS:=Be _ _ ws wi
  repeat' (with_reducible first|refine qq ?_|(refine Tx 0 ?_;refine Jn xBo ?_;refine Jn xBo ?_;refine Ja ?_)|(refine Tx 1 ?_;refine jF ?_;refine jD ?_;refine Jm ?_;refine Jo (by first|exact xIr Ae (Bo hy)|exact xIr Ae (hwi)) ?_;refine jA ?_;refine Jn (xAl Aw) ?_;refine Js (xSk Au) ?_)|(refine Tx 2 ?_;refine Jo (by first|exact xMf [(1,0,none),(2,0,none)]|exact Ah rfl (by repeat' first|exact AC rfl rfl|refine Ay rfl rfl rfl ?_)) ?_;refine Ja ?_)|(refine Tx 3 ?_;refine Jn (xAl Ao) ?_)|(refine Tx 4 ?_;refine jF ?_;refine jD ?_)|(refine Tx 6 ?_;refine Jo xEq ?_;refine Ja ?_)|(refine Tx 9 ?_;refine Jo xEq ?_;refine Ja ?_)|(refine Tx 11 ?_;refine Jo xEq ?_;refine Ja ?_)|(refine Tx 13 ?_;refine Jo xEq ?_;refine Ja ?_)|(refine Tx 15 ?_;refine Jo xEq ?_;refine Ja ?_)|(refine Tx 17 ?_;refine Jo xEq ?_;refine Ja ?_)|(refine Tx 19 ?_;refine Jo xEq ?_;refine Ja ?_)|(refine Tx 20 ?_;refine Jm ?_;refine Jo (xCc Tryz.func137 A0 (args:=[_]) rfl) ?_;refine Jo (xCl Tryz.func146 (C)) ?_;refine Js (xSk Ag) ?_)|(refine AZ (id:=29) AK (by kernel_rfl) ?_;refine kA ?_;refine kF ?_;refine kD ?_;refine Km ?_;refine Ko (xIr Af (hwi)) ?_;refine kA ?_;refine Ko (xCl Tryz.func151 (IS)) ?_;refine Ka ?_;refine Ke ?_))
  exact Ap rfl (.cons_ (BL rfl (rfl)) .nil_)
 ·
  obtain ⟨a,hA0,ha0,hl0⟩:=B.a0 (by omega)
  have hl0:=hl0 (by omega)
  have hL0:=(List.getElem?_eq_some_iff.1 hA0).1
  obtain ⟨P,hP⟩:∃ P,c.R[a]?.getD iZ=P:=⟨_,rfl⟩
  have sp:=(Bf sR a).more (show LB≤20000 by decide) (show LB≤20000 by decide)
  have A0:=Ck t u c y 0 hA0 (by omega) (by omega) (by omega)
  have hj0:(BX c.R y)[0]?=some P:=Br (by omega) hA0 (by rw [Int.toNat_natCast,←hP];exact GX (by omega))
  rw [hP] at sp A0
  have hv:=B.sv (by omega)
  have RV:=Fv y.vn y.ve hv
  have sv:=(EA hv).more (show LB≤20000 by decide) (show LB≤20000 by decide)
  have C:=Gm P (Ai y.vn 0 y.ve) sp sv
  have hb:El ps c.R y=FZ P (Ai y.vn 0 y.ve):=by unfold El CI Dj;simp [h,hj0]
  have ws:IwS (FZ P (Ai y.vn 0 y.ve)) 20000 20000:=by
   have:=Dp (y:=y) (Cb (y:=y) sR) (fun h2=>B.sv (by omega)) (fun h2=>B.su h2) (by omega)
   rw [show Dj y (BX c.R y)=FZ P (Ai y.vn 0 y.ve) by unfold Dj;simp [h,hj0]] at this
   exact this.more (by decide) (by decide)
  unfold BP
  rw [hb]
  have IS:=Be _ _ ws wi
  repeat' (with_reducible first|refine qq ?_|(refine Tx 0 ?_;refine Jn xBo ?_;refine Jn xBo ?_;refine Ja ?_)|(refine Tx 1 ?_;refine jF ?_;refine jD ?_;refine Jm ?_;refine Jo (by first|exact xIr Ae (Bo hy)|exact xIr Ae (hwi)) ?_;refine jA ?_;refine Jn (xAl Aw) ?_;refine Js (xSk Au) ?_)|(refine Tx 2 ?_;refine Jo (by first|exact xMf [(1,0,none),(2,0,none)]|exact Ah rfl (by repeat' first|exact AC rfl rfl|refine Ay rfl rfl rfl ?_)) ?_;refine Ja ?_)|(refine Tx 3 ?_;refine Jn (xAl Ao) ?_)|(refine Tx 4 ?_;refine jF ?_;refine jD ?_)|(refine Tx 6 ?_;refine Jo xEq ?_;refine Ja ?_)|(refine Tx 9 ?_;refine Jo xEq ?_;refine Ja ?_)|(refine Tx 11 ?_;refine Jo xEq ?_;refine Ja ?_)|(refine Tx 13 ?_;refine Jo xEq ?_;refine Ja ?_)|(refine Tx 15 ?_;refine Jo xEq ?_;refine Ja ?_)|(refine Tx 17 ?_;refine Jo xEq ?_;refine Ja ?_)|(refine Tx 19 ?_;refine Jo xEq ?_;refine Ja ?_)|(refine Tx 21 ?_;refine Jo xEq ?_;refine Ja ?_)|(refine Tx 23 ?_;refine Jo xEq ?_;refine Ja ?_)|(refine Ba (id:=24) 6 AK (by kernel_rfl) ?_;dsimp only [List.take,List.drop];refine Km ?_;refine Ko (xCc Tryz.func137 A0 (args:=[_]) rfl) ?_;refine kF ?_;refine kA ?_;refine Ko (xCl Tryz.func141 (RV)) ?_;refine Ko (xCl Tryz.func138 (C)) ?_;refine Ke ?_;refine Js (xSk Ag) ?_)|(refine AZ (id:=29) AK (by kernel_rfl) ?_;refine kA ?_;refine kF ?_;refine kD ?_;refine Km ?_;refine Ko (xIr Af (hwi)) ?_;refine kA ?_;refine Ko (xCl Tryz.func151 (IS)) ?_;refine Ka ?_;refine Ke ?_))
  exact Ap rfl (.cons_ (BL rfl (rfl)) .nil_)
 ·
  obtain ⟨a,hA0,ha0,hl0⟩:=B.a0 (by omega)
  have hl0:=hl0 (by omega)
  have hL0:=(List.getElem?_eq_some_iff.1 hA0).1
  obtain ⟨P,hP⟩:∃ P,c.R[a]?.getD iZ=P:=⟨_,rfl⟩
  have sp:=(Bf sR a).more (show LB≤20000 by decide) (show LB≤20000 by decide)
  have A0:=Ck t u c y 0 hA0 (by omega) (by omega) (by omega)
  have hj0:(BX c.R y)[0]?=some P:=Br (by omega) hA0 (by rw [Int.toNat_natCast,←hP];exact GX (by omega))
  rw [hP] at sp A0
  obtain ⟨b,hA1,ha1,hl1⟩:=B.a1 (by omega)
  have hL1:=(List.getElem?_eq_some_iff.1 hA1).1
  obtain ⟨Q,hQ⟩:∃ Q,c.R[b]?.getD iZ=Q:=⟨_,rfl⟩
  have sq:=(Bf sR b).more (show LB≤20000 by decide) (show LB≤20000 by decide)
  have A1:=Ck t u c y 1 hA1 (by omega) (by omega) (by omega)
  have hj1:(BX c.R y)[1]?=some Q:=Br (by omega) hA1 (by rw [Int.toNat_natCast,←hQ];exact GX (by omega))
  rw [hQ] at sq A1
  have C:=OX P Q sp sq
  have hb:El ps c.R y=Yb P Q:=by unfold El CI Dj;simp [h,hj0,hj1]
  have ws:IwS (Yb P Q) 20000 20000:=by
   have:=Dp (y:=y) (Cb (y:=y) sR) (fun h2=>B.sv (by omega)) (fun h2=>B.su h2) (by omega)
   rw [show Dj y (BX c.R y)=Yb P Q by unfold Dj;simp [h,hj0,hj1]] at this
   exact this.more (by decide) (by decide)
  unfold BP
  rw [hb]
  have IS:=Be _ _ ws wi
  repeat' (with_reducible first|refine qq ?_|(refine Tx 0 ?_;refine Jn xBo ?_;refine Jn xBo ?_;refine Ja ?_)|(refine Tx 1 ?_;refine jF ?_;refine jD ?_;refine Jm ?_;refine Jo (by first|exact xIr Ae (Bo hy)|exact xIr Ae (hwi)) ?_;refine jA ?_;refine Jn (xAl Aw) ?_;refine Js (xSk Au) ?_)|(refine Tx 2 ?_;refine Jo (by first|exact xMf [(1,0,none),(2,0,none)]|exact Ah rfl (by repeat' first|exact AC rfl rfl|refine Ay rfl rfl rfl ?_)) ?_;refine Ja ?_)|(refine Tx 3 ?_;refine Jn (xAl Ao) ?_)|(refine Tx 4 ?_;refine jF ?_;refine jD ?_)|(refine Tx 6 ?_;refine Jo xEq ?_;refine Ja ?_)|(refine Tx 9 ?_;refine Jo xEq ?_;refine Ja ?_)|(refine Tx 11 ?_;refine Jo xEq ?_;refine Ja ?_)|(refine Tx 13 ?_;refine Jo xEq ?_;refine Ja ?_)|(refine Tx 15 ?_;refine Jo xEq ?_;refine Ja ?_)|(refine Tx 17 ?_;refine Jo xEq ?_;refine Ja ?_)|(refine Tx 18 ?_;refine Jm ?_;refine Jo (xCc Tryz.func137 A0 (args:=[_]) rfl) ?_;refine Jm ?_;refine Jo (xCc Tryz.func137 A1 (args:=[_]) rfl) ?_;refine Jo (xCl Tryz.func145 (C)) ?_;refine Js (xSk Ag) ?_)|(refine AZ (id:=29) AK (by kernel_rfl) ?_;refine kA ?_;refine kF ?_;refine kD ?_;refine Km ?_;refine Ko (xIr Af (hwi)) ?_;refine kA ?_;refine Ko (xCl Tryz.func151 (IS)) ?_;refine Ka ?_;refine Ke ?_))
  exact Ap rfl (.cons_ (BL rfl (rfl)) .nil_)
 ·
  obtain ⟨a,hA0,ha0,hl0⟩:=B.a0 (by omega)
  have hl0:=hl0 (by omega)
  have hL0:=(List.getElem?_eq_some_iff.1 hA0).1
  obtain ⟨P,hP⟩:∃ P,c.R[a]?.getD iZ=P:=⟨_,rfl⟩
  have sp:=(Bf sR a).more (show LB≤20000 by decide) (show LB≤20000 by decide)
  have A0:=Ck t u c y 0 hA0 (by omega) (by omega) (by omega)
  have hj0:(BX c.R y)[0]?=some P:=Br (by omega) hA0 (by rw [Int.toNat_natCast,←hP];exact GX (by omega))
  rw [hP] at sp A0
  obtain ⟨b,hA1,ha1,hl1⟩:=B.a1 (by omega)
  have hL1:=(List.getElem?_eq_some_iff.1 hA1).1
  obtain ⟨Q,hQ⟩:∃ Q,c.R[b]?.getD iZ=Q:=⟨_,rfl⟩
  have sq:=(Bf sR b).more (show LB≤20000 by decide) (show LB≤20000 by decide)
  have A1:=Ck t u c y 1 hA1 (by omega) (by omega) (by omega)
  have hj1:(BX c.R y)[1]?=some Q:=Br (by omega) hA1 (by rw [Int.toNat_natCast,←hQ];exact GX (by omega))
  rw [hQ] at sq A1
  have C:=OV P Q sp sq
  have hb:El ps c.R y=Yc P Q:=by unfold El CI Dj;simp [h,hj0,hj1]
  have ws:IwS (Yc P Q) 20000 20000:=by
   have:=Dp (y:=y) (Cb (y:=y) sR) (fun h2=>B.sv (by omega)) (fun h2=>B.su h2) (by omega)
   rw [show Dj y (BX c.R y)=Yc P Q by unfold Dj;simp [h,hj0,hj1]] at this
   exact this.more (by decide) (by decide)
  unfold BP
  rw [hb]
  have IS:=Be _ _ ws wi
  repeat' (with_reducible first|refine qq ?_|(refine Tx 0 ?_;refine Jn xBo ?_;refine Jn xBo ?_;refine Ja ?_)|(refine Tx 1 ?_;refine jF ?_;refine jD ?_;refine Jm ?_;refine Jo (by first|exact xIr Ae (Bo hy)|exact xIr Ae (hwi)) ?_;refine jA ?_;refine Jn (xAl Aw) ?_;refine Js (xSk Au) ?_)|(refine Tx 2 ?_;refine Jo (by first|exact xMf [(1,0,none),(2,0,none)]|exact Ah rfl (by repeat' first|exact AC rfl rfl|refine Ay rfl rfl rfl ?_)) ?_;refine Ja ?_)|(refine Tx 3 ?_;refine Jn (xAl Ao) ?_)|(refine Tx 4 ?_;refine jF ?_;refine jD ?_)|(refine Tx 6 ?_;refine Jo xEq ?_;refine Ja ?_)|(refine Tx 9 ?_;refine Jo xEq ?_;refine Ja ?_)|(refine Tx 11 ?_;refine Jo xEq ?_;refine Ja ?_)|(refine Tx 13 ?_;refine Jo xEq ?_;refine Ja ?_)|(refine Tx 15 ?_;refine Jo xEq ?_;refine Ja ?_)|(refine Tx 17 ?_;refine Jo xEq ?_;refine Ja ?_)|(refine Tx 19 ?_;refine Jo xEq ?_;refine Ja ?_)|(refine Tx 21 ?_;refine Jo xEq ?_;refine Ja ?_)|(refine Tx 23 ?_;refine Jo xEq ?_;refine Ja ?_)|(refine Tx 25 ?_;refine Jo xEq ?_;refine Ja ?_)|(refine Tx 26 ?_;refine Jm ?_;refine Jo (xCc Tryz.func137 A0 (args:=[_]) rfl) ?_;refine Jm ?_;refine Jo (xCc Tryz.func137 A1 (args:=[_]) rfl) ?_;refine Jo (xCl Tryz.func148 (C)) ?_;refine Js (xSk Ag) ?_)|(refine AZ (id:=29) AK (by kernel_rfl) ?_;refine kA ?_;refine kF ?_;refine kD ?_;refine Km ?_;refine Ko (xIr Af (hwi)) ?_;refine kA ?_;refine Ko (xCl Tryz.func151 (IS)) ?_;refine Ka ?_;refine Ke ?_))
  exact Ap rfl (.cons_ (BL rfl (rfl)) .nil_)
 ·
  obtain ⟨a,hA0,ha0,hl0⟩:=B.a0 (by omega)
  have hl0:=hl0 (by omega)
  have hL0:=(List.getElem?_eq_some_iff.1 hA0).1
  obtain ⟨P,hP⟩:∃ P,c.R[a]?.getD iZ=P:=⟨_,rfl⟩
  have sp:=(Bf sR a).more (show LB≤20000 by decide) (show LB≤20000 by decide)
  have A0:=Ck t u c y 0 hA0 (by omega) (by omega) (by omega)
  have hj0:(BX c.R y)[0]?=some P:=Br (by omega) hA0 (by rw [Int.toNat_natCast,←hP];exact GX (by omega))
  rw [hP] at sp A0
  obtain ⟨b,hA1,ha1,hl1⟩:=B.a1 (by omega)
  have hL1:=(List.getElem?_eq_some_iff.1 hA1).1
  obtain ⟨Q,hQ⟩:∃ Q,c.R[b]?.getD iZ=Q:=⟨_,rfl⟩
  have sq:=(Bf sR b).more (show LB≤20000 by decide) (show LB≤20000 by decide)
  have A1:=Ck t u c y 1 hA1 (by omega) (by omega) (by omega)
  have hj1:(BX c.R y)[1]?=some Q:=Br (by omega) hA1 (by rw [Int.toNat_natCast,←hQ];exact GX (by omega))
  rw [hQ] at sq A1
  have C:=OW P Q sp sq
  have hb:El ps c.R y=Xj P Q:=by unfold El CI Dj;simp [h,hj0,hj1]
  have ws:IwS (Xj P Q) 20000 20000:=by
   have:=Dp (y:=y) (Cb (y:=y) sR) (fun h2=>B.sv (by omega)) (fun h2=>B.su h2) (by omega)
   rw [show Dj y (BX c.R y)=Xj P Q by unfold Dj;simp [h,hj0,hj1]] at this
   exact this.more (by decide) (by decide)
  unfold BP
  rw [hb]
  have IS:=Be _ _ ws wi
  repeat' (with_reducible first|refine qq ?_|(refine Tx 0 ?_;refine Jn xBo ?_;refine Jn xBo ?_;refine Ja ?_)|(refine Tx 1 ?_;refine jF ?_;refine jD ?_;refine Jm ?_;refine Jo (by first|exact xIr Ae (Bo hy)|exact xIr Ae (hwi)) ?_;refine jA ?_;refine Jn (xAl Aw) ?_;refine Js (xSk Au) ?_)|(refine Tx 2 ?_;refine Jo (by first|exact xMf [(1,0,none),(2,0,none)]|exact Ah rfl (by repeat' first|exact AC rfl rfl|refine Ay rfl rfl rfl ?_)) ?_;refine Ja ?_)|(refine Tx 3 ?_;refine Jn (xAl Ao) ?_)|(refine Tx 4 ?_;refine jF ?_;refine jD ?_)|(refine Tx 6 ?_;refine Jo xEq ?_;refine Ja ?_)|(refine Tx 9 ?_;refine Jo xEq ?_;refine Ja ?_)|(refine Tx 11 ?_;refine Jo xEq ?_;refine Ja ?_)|(refine Tx 13 ?_;refine Jo xEq ?_;refine Ja ?_)|(refine Tx 15 ?_;refine Jo xEq ?_;refine Ja ?_)|(refine Tx 17 ?_;refine Jo xEq ?_;refine Ja ?_)|(refine Tx 19 ?_;refine Jo xEq ?_;refine Ja ?_)|(refine Tx 21 ?_;refine Jo xEq ?_;refine Ja ?_)|(refine Tx 23 ?_;refine Jo xEq ?_;refine Ja ?_)|(refine Tx 25 ?_;refine Jo xEq ?_;refine Ja ?_)|(refine Tx 27 ?_;refine Jo xEq ?_;refine Ja ?_)|(refine Tx 28 ?_;refine Jm ?_;refine Jo (xCc Tryz.func137 A0 (args:=[_]) rfl) ?_;refine Jm ?_;refine Jo (xCc Tryz.func137 A1 (args:=[_]) rfl) ?_;refine Jo (xCl Tryz.func149 (C)) ?_;refine Js (xSk Ag) ?_)|(refine AZ (id:=29) AK (by kernel_rfl) ?_;refine kA ?_;refine kF ?_;refine kD ?_;refine Km ?_;refine Ko (xIr Af (hwi)) ?_;refine kA ?_;refine Ko (xCl Tryz.func151 (IS)) ?_;refine Ka ?_;refine Ke ?_))
  exact Ap rfl (.cons_ (BL rfl (rfl)) .nil_)
 ·
  obtain ⟨a,hA0,ha0,hl0⟩:=B.a0 (by omega)
  have hl0:=hl0 (by omega)
  have hL0:=(List.getElem?_eq_some_iff.1 hA0).1
  obtain ⟨P,hP⟩:∃ P,c.R[a]?.getD iZ=P:=⟨_,rfl⟩
  have sp:=(Bf sR a).more (show LB≤20000 by decide) (show LB≤20000 by decide)
  have A0:=Ck t u c y 0 hA0 (by omega) (by omega) (by omega)
  have hj0:(BX c.R y)[0]?=some P:=Br (by omega) hA0 (by rw [Int.toNat_natCast,←hP];exact GX (by omega))
  rw [hP] at sp A0
  have C:=OY P sp
  have hb:El ps c.R y=Qu P:=by unfold El CI Dj;simp [h,hj0]
  have ws:IwS (Qu P) 20000 20000:=by
   have:=Dp (y:=y) (Cb (y:=y) sR) (fun h2=>B.sv (by omega)) (fun h2=>B.su h2) (by omega)
   rw [show Dj y (BX c.R y)=Qu P by unfold Dj;simp [h,hj0]] at this
   exact this.more (by decide) (by decide)
  unfold BP
  rw [hb]
  have IS:=Be _ _ ws wi
  repeat' (with_reducible first|refine qq ?_|(refine Tx 0 ?_;refine Jn xBo ?_;refine Jn xBo ?_;refine Ja ?_)|(refine Tx 1 ?_;refine jF ?_;refine jD ?_;refine Jm ?_;refine Jo (by first|exact xIr Ae (Bo hy)|exact xIr Ae (hwi)) ?_;refine jA ?_;refine Jn (xAl Aw) ?_;refine Js (xSk Au) ?_)|(refine Tx 2 ?_;refine Jo (by first|exact xMf [(1,0,none),(2,0,none)]|exact Ah rfl (by repeat' first|exact AC rfl rfl|refine Ay rfl rfl rfl ?_)) ?_;refine Ja ?_)|(refine Tx 3 ?_;refine Jn (xAl Ao) ?_)|(refine Tx 4 ?_;refine jF ?_;refine jD ?_)|(refine Tx 6 ?_;refine Jo xEq ?_;refine Ja ?_)|(refine Tx 9 ?_;refine Jo xEq ?_;refine Ja ?_)|(refine Tx 11 ?_;refine Jo xEq ?_;refine Ja ?_)|(refine Tx 13 ?_;refine Jo xEq ?_;refine Ja ?_)|(refine Tx 15 ?_;refine Jo xEq ?_;refine Ja ?_)|(refine Tx 17 ?_;refine Jo xEq ?_;refine Ja ?_)|(refine Tx 19 ?_;refine Jo xEq ?_;refine Ja ?_)|(refine Tx 21 ?_;refine Jo xEq ?_;refine Ja ?_)|(refine Tx 22 ?_;refine Jm ?_;refine Jo (xCc Tryz.func137 A0 (args:=[_]) rfl) ?_;refine Jo (xCl Tryz.func147 (C)) ?_;refine Js (xSk Ag) ?_)|(refine AZ (id:=29) AK (by kernel_rfl) ?_;refine kA ?_;refine kF ?_;refine kD ?_;refine Km ?_;refine Ko (xIr Af (hwi)) ?_;refine kA ?_;refine Ko (xCl Tryz.func151 (IS)) ?_;refine Ka ?_;refine Ke ?_))
  exact Ap rfl (.cons_ (BL rfl (rfl)) .nil_)
 ·
  obtain ⟨a,hA0,ha0,hl0⟩:=B.a0 (by omega)
  have hl0:=hl0 (by omega)
  have hL0:=(List.getElem?_eq_some_iff.1 hA0).1
  obtain ⟨P,hP⟩:∃ P,c.R[a]?.getD iZ=P:=⟨_,rfl⟩
  have sp:=(Bf sR a).more (show LB≤20000 by decide) (show LB≤20000 by decide)
  have A0:=Ck t u c y 0 hA0 (by omega) (by omega) (by omega)
  have hj0:(BX c.R y)[0]?=some P:=Br (by omega) hA0 (by rw [Int.toNat_natCast,←hP];exact GX (by omega))
  rw [hP] at sp A0
  have hv:=B.sv (by omega)
  have RV:=Fv y.vn y.ve hv
  have sv:=(EA hv).more (show LB≤20000 by decide) (show LB≤20000 by decide)
  have hu:=B.su h
  have RU:=Fv y.un y.ue hu
  have su:=(EA hu).more (show LB≤20000 by decide) (show LB≤20000 by decide)
  have C:=QB P (Ai y.vn 0 y.ve) (Ai y.un 0 y.ue) sp sv su (B.cl h)
  have hb:El ps c.R y=OQ P (Ai y.vn 0 y.ve) (Ai y.un 0 y.ue):=by unfold El CI Dj;simp [h,hj0]
  have ws:IwS (OQ P (Ai y.vn 0 y.ve) (Ai y.un 0 y.ue)) 20000 20000:=by
   have:=Dp (y:=y) (Cb (y:=y) sR) (fun h2=>B.sv (by omega)) (fun h2=>B.su h2) (by omega)
   rw [show Dj y (BX c.R y)=OQ P (Ai y.vn 0 y.ve) (Ai y.un 0 y.ue) by unfold Dj;simp [h,hj0]] at this
   exact this.more (by decide) (by decide)
  unfold BP
  rw [hb]
  have IS:=Be _ _ ws wi
  repeat' (with_reducible first|refine qq ?_|(refine Tx 0 ?_;refine Jn xBo ?_;refine Jn xBo ?_;refine Ja ?_)|(refine Tx 1 ?_;refine jF ?_;refine jD ?_;refine Jm ?_;refine Jo (by first|exact xIr Ae (Bo hy)|exact xIr Ae (hwi)) ?_;refine jA ?_;refine Jn (xAl Aw) ?_;refine Js (xSk Au) ?_)|(refine Tx 2 ?_;refine Jo (by first|exact xMf [(1,0,none),(2,0,none)]|exact Ah rfl (by repeat' first|exact AC rfl rfl|refine Ay rfl rfl rfl ?_)) ?_;refine Ja ?_)|(refine Tx 3 ?_;refine Jn (xAl Ao) ?_)|(refine Tx 4 ?_;refine jF ?_;refine jD ?_)|(refine Tx 6 ?_;refine Jo xEq ?_;refine Ja ?_)|(refine Tx 9 ?_;refine Jo xEq ?_;refine Ja ?_)|(refine Tx 11 ?_;refine Jo xEq ?_;refine Ja ?_)|(refine Tx 13 ?_;refine Jo xEq ?_;refine Ja ?_)|(refine Tx 15 ?_;refine Jo xEq ?_;refine Ja ?_)|(refine Tx 17 ?_;refine Jo xEq ?_;refine Ja ?_)|(refine Tx 19 ?_;refine Jo xEq ?_;refine Ja ?_)|(refine Tx 21 ?_;refine Jo xEq ?_;refine Ja ?_)|(refine Tx 23 ?_;refine Jo xEq ?_;refine Ja ?_)|(refine Tx 25 ?_;refine Jo xEq ?_;refine Ja ?_)|(refine Tx 27 ?_;refine Jo xEq ?_;refine Ja ?_)|(refine Oi (id:=5) 12 [(12,11)] AK (by kernel_rfl) ?_;dsimp only [List.take,List.drop];refine Km ?_;refine Ko (xCc Tryz.func137 A0 (args:=[_]) rfl) ?_;refine kF ?_;refine kA ?_;refine Ko (by first|exact xCl Tryz.func141 (RV)|exact xCl Tryz.func141 (RU)) ?_;refine kF ?_;refine kA ?_;refine Ko (by first|exact xCl Tryz.func141 (RV)|exact xCl Tryz.func141 (RU)) ?_;refine Ko (xCl Tryz.func150 (C)) ?_;refine Ko xMt ?_;refine Ko (by exact FN rfl rfl rfl) ?_;refine Ko xEx ?_;refine Ke ?_;refine Js (xSk Ag) ?_)|(refine AZ (id:=29) AK (by kernel_rfl) ?_;refine kA ?_;refine kF ?_;refine kD ?_;refine Km ?_;refine Ko (xIr Af (hwi)) ?_;refine kA ?_;refine Ko (xCl Tryz.func151 (IS)) ?_;refine Ka ?_;refine Ke ?_))
  exact Ap rfl (.cons_ (BL rfl (rfl)) .nil_)
def AcY (E:List Pq):D:=.row true 3 E.length (AN dyP E)
theorem Ef (t u:Bool) (c:Ct) (E:List Pq) (y:Bk) (s:Int) (s0:0≤s) (s1:s≤30) (sE:∀ p∈E,Sm p LB LB) (k:Nat) {r:Nat} (hk:y.args[k]?=some (r:Int)) (hr:r<c.F.length) (hr2:r<E.length) (ha:y.args.length≤1000000) (hv:c.F.length≤1000000) (hv2:E.length≤1000000):CV Tryz.prog Ax 154 [aI (k:Int),.one (.ptr true (dBk t y)),.one (.ptr true [dI s]),.one (.ptr true (dCt u c)),.one (.ptr true [AcY E]),.one (.ptr true (dDy false (pw (-s)).1 (pw (-s)).2))] [aDy false (mvP c.F E s (r:Int)).1 (mvP c.F E s (r:Int)).2]:=by
 refine cvz Tryz.func154 Tryz.ntmps154 ?_
 have l1:=(List.getElem?_eq_some_iff.1 hk).1
 have hFr:=Hc (F:=c.F) (k:=r) (by omega)
 have hEr:=RQ (E:=E) (k:=r) (by omega)
 have sm:=Cz sE r
 obtain ⟨e,he⟩:∃ e,E[r]?.getD (0,0)=e:=⟨_,rfl⟩
 rw [he] at sm hEr
 have um:=IC s0 s1
 have AD:=BZ e.1 e.2 (pw (-s)).1 (pw (-s)).2 sm.ok um.ok (Nat.le_trans (sm.lenN 128 (by decide)) (by decide)) (Nat.le_trans (um.lenN 1 (by decide)) (by decide))
 by_cases h:scA c.F r≤s
 case pos =>
  rw [show mvP c.F E s (r:Int)=e by unfold mvP;rw [DM,if_pos h,EG,he]]
  repeat' (with_reducible first|refine qq ?_|(refine Tx 0 ?_;refine Jn (xAl Aj) ?_)|(refine Tx 1 ?_;refine jF ?_;refine jD ?_;refine Jm ?_;refine Jo (by first|exact xIr Ab (Ak hk)|exact xIr Ab (Ak hFr)|exact xIr Ab (hEr)) ?_;refine jD ?_;refine Ja ?_)|(refine AZ (id:=2) AK (by kernel_rfl) ?_;refine kD ?_;refine kF ?_;refine kD ?_;refine Km ?_;refine Ko (by first|exact xIr Ab (Ak hk)|exact xIr Ab (Ak hFr)|exact xIr Ab (hEr)) ?_;refine kD ?_;refine Ko xGe ?_;refine Ke ?_)|(refine Tx 3 ?_;refine jD ?_;refine Jm ?_;refine Jo (xIr Ac (hEr)) ?_;refine jA ?_;refine Js (xSk Aa) ?_)|(refine Ba (id:=4) 6 AK (by kernel_rfl) ?_;dsimp only [List.take,List.drop];refine kD ?_;refine Km ?_;refine Ko (xIr Ac (hEr)) ?_;refine kA ?_;refine kA ?_;refine Ko (xCl Tryz.func152 (AD)) ?_;refine Ke ?_;refine Js (xSk Aa) ?_))
  exact Ap rfl (.cons_ (rvW Aa rfl) .nil_)
 rw [show mvP c.F E s (r:Int)=DD e (pw (-s)) by unfold mvP;rw [DM,if_neg h,EG,he]]
 repeat' (with_reducible first|refine qq ?_|(refine Tx 0 ?_;refine Jn (xAl Aj) ?_)|(refine Tx 1 ?_;refine jF ?_;refine jD ?_;refine Jm ?_;refine Jo (by first|exact xIr Ab (Ak hk)|exact xIr Ab (Ak hFr)|exact xIr Ab (hEr)) ?_;refine jD ?_;refine Ja ?_)|(refine AZ (id:=2) AK (by kernel_rfl) ?_;refine kD ?_;refine kF ?_;refine kD ?_;refine Km ?_;refine Ko (by first|exact xIr Ab (Ak hk)|exact xIr Ab (Ak hFr)|exact xIr Ab (hEr)) ?_;refine kD ?_;refine Ko xGe ?_;refine Ke ?_)|(refine Tx 3 ?_;refine jD ?_;refine Jm ?_;refine Jo (xIr Ac (hEr)) ?_;refine jA ?_;refine Js (xSk Aa) ?_)|(refine Ba (id:=4) 6 AK (by kernel_rfl) ?_;dsimp only [List.take,List.drop];refine kD ?_;refine Km ?_;refine Ko (xIr Ac (hEr)) ?_;refine kA ?_;refine kA ?_;refine Ko (xCl Tryz.func152 (AD)) ?_;refine Ke ?_;refine Js (xSk Aa) ?_))
 exact Ap rfl (.cons_ (rvW Aa rfl) .nil_)
theorem II (b:Bool) (s:Int):CV Tryz.prog Ax 155 [aB b,.one (.ptr true (dDy false (pw (-s)).1 (pw (-s)).2))] [aDy false (ixP b s).1 (ixP b s).2]:=by
 refine cvz Tryz.func155 Tryz.ntmps155 ?_
 cases b
 case true =>
  rw [show ixP true s=pw (-s) from rfl]
  repeat' (with_reducible first|refine qq ?_|(refine Tx 0 ?_;refine Jn (xAl Aj) ?_)|(refine Tx 1 ?_;refine Jm ?_)|(refine Tx 2 ?_;refine jA ?_;refine Js (xSk Aa) ?_))
  exact Ap rfl (.cons_ (rvW Aa rfl) .nil_)
 case false =>
  rw [show ixP false s=(0,0) from rfl,Iy]
  repeat' (with_reducible first|refine qq ?_|(refine Tx 0 ?_;refine Jn (xAl Aj) ?_)|(refine Tx 1 ?_;refine Jm ?_)|(refine Tx 3 ?_;refine Jo (by exact BI rfl Ev rfl rfl) ?_;refine Js (xSk Aa) ?_))
  exact Ap rfl (.cons_ (Adl Aa rfl) .nil_)
theorem UK (t u:Bool) {ps:List Prt} {bs:List Bk} (os:List Int) (c:Ct) (E:List Pq) (hE:E.length=bs.length) (sE:∀ p∈E,Sm p LB LB) (i:Nat) {y:Bk} (hy:bs[i]?=some y) (B:XD ps bs.length y) (hF:c.F.length=bs.length) (hR:c.R.length=bs.length) (sR:∀ p∈c.R,IwS p LB LB) (hn:bs.length≤1000000) (hpn:ps.length≤1000000) (hs2:0≤scA c.F i∧scA c.F i≤30) (hsa:y.kind≠0→∀ a∈y.args,0≤sG c.F a∧sG c.F a≤30):CV Tryz.prog Ax 65 [aDg t ps bs os,.agg (dCt u c),.one (AcY E),aI (i:Int)] [aDy false (Bd ps c.F c.R E y (scA c.F i)).1 (Bd ps c.F c.R E y (scA c.F i)).2]:=by
 refine cvz Tryz.func65 Tryz.ntmps65 ?_
 have hil:=(List.getElem?_eq_some_iff.1 hy).1
 have hFi:=Hc (F:=c.F) (k:=i) (by omega)
 obtain ⟨s,hs⟩:∃ s,scA c.F i=s:=⟨_,rfl⟩
 rw [hs] at hFi
 have hBl:=B.len
 obtain ⟨s0,s1⟩:=hs2
 rw [hs] at s0 s1
 have UN:=HG s s0 s1
 have um:=IC s0 s1
 rw [hs]
 rcases B.hk with h|h|h|h|h|h|h|h|h|h|h|h
 ·
  obtain ⟨j,pp,hA0,ha0,hp,PS⟩:=B.port h
  have l3:=(List.getElem?_eq_some_iff.1 hp).1
  have hL0:=(List.getElem?_eq_some_iff.1 hA0).1
  rw [show Bd ps c.F c.R E y s=ixP (decide (s<pp.fr)) s by unfold Bd;rw [if_pos h,ha0,Pb hp]]
  have IX:=II (decide (s<pp.fr)) s
  repeat' (with_reducible first|refine qq ?_|(refine Tx 0 ?_;refine Jn xBo ?_;refine Jn xBo ?_;refine Jn xBo ?_;refine Jn (xAl Aj) ?_)|(refine Tx 1 ?_;refine jF ?_;refine jD ?_;refine Jm ?_;refine Jo (xIr Ae (Bo hy)) ?_;refine jA ?_;refine Jn (xAl Aw) ?_;refine Js (xSk Au) ?_)|(refine Tx 2 ?_;refine jF ?_;refine jD ?_;refine Jm ?_;refine Jo (xIr Ab (Ak hFi)) ?_;refine jD ?_;refine Jn (xAl Bj) ?_;refine Js (by first|exact xS1 Al|exact xSk Al) ?_)|(refine Tx 3 ?_;refine jD ?_;refine Jo (xCl Tryz.func64 (UN)) ?_;refine Jn (xAl Aj) ?_;refine Js (xSk Aa) ?_)|(refine Tx 4 ?_;refine Jo (by first|exact xMf [(4,0,none),(5,0,none),(1,0,none),(2,0,none),(6,0,none)]|exact Ah rfl (by repeat' first|exact AC rfl rfl|refine Ay rfl rfl rfl ?_)) ?_;refine Ja ?_)|(refine Tx 5 ?_;refine Jo (by first|exact xMf [(6,0,none)]|exact Ah rfl (by repeat' first|exact AC rfl rfl|refine Ay rfl rfl rfl ?_)) ?_;refine Ja ?_)|(refine Tx 6 ?_;refine jF ?_;refine jD ?_)|(refine Tx 7 ?_;refine Jo xEq ?_;refine Ja ?_)|(refine Ba (id:=8) 13 AK (by kernel_rfl) ?_;dsimp only [List.take,List.drop];refine Km ?_;refine kD ?_;refine kF ?_;refine kD ?_;refine kF ?_;refine kD ?_;refine Ko (xIr Ab (Ak hA0)) ?_;refine kD ?_;refine Ko (xIr CS (ND hp)) ?_;refine kF ?_;refine kD ?_;refine Ko (by first|exact LV rfl rfl rfl|exact xLt) ?_;refine Ko (xCc Tryz.func155 IX (args:=[_]) rfl) ?_;refine Ke ?_;refine Js (xSk Aa) ?_))
  exact Ap rfl (.cons_ (rvW Aa rfl) .nil_)
 ·
  have WH:=Fc y.vn y.ve s (B.sv (by omega)) s0 s1
  have IX:=II (!Bl y.vn y.ve s) s
  rw [show Bd ps c.F c.R E y s=ixP (!Bl y.vn y.ve s) s by unfold Bd;rw [if_neg (by omega),if_pos h]]
  repeat' (with_reducible first|refine qq ?_|(refine Tx 0 ?_;refine Jn xBo ?_;refine Jn xBo ?_;refine Jn xBo ?_;refine Jn (xAl Aj) ?_)|(refine Tx 1 ?_;refine jF ?_;refine jD ?_;refine Jm ?_;refine Jo (xIr Ae (Bo hy)) ?_;refine jA ?_;refine Jn (xAl Aw) ?_;refine Js (xSk Au) ?_)|(refine Tx 2 ?_;refine jF ?_;refine jD ?_;refine Jm ?_;refine Jo (xIr Ab (Ak hFi)) ?_;refine jD ?_;refine Jn (xAl Bj) ?_;refine Js (by first|exact xS1 Al|exact xSk Al) ?_)|(refine Tx 3 ?_;refine jD ?_;refine Jo (xCl Tryz.func64 (UN)) ?_;refine Jn (xAl Aj) ?_;refine Js (xSk Aa) ?_)|(refine Tx 4 ?_;refine Jo (by first|exact xMf [(4,0,none),(5,0,none),(1,0,none),(2,0,none),(6,0,none)]|exact Ah rfl (by repeat' first|exact AC rfl rfl|refine Ay rfl rfl rfl ?_)) ?_;refine Ja ?_)|(refine Tx 5 ?_;refine Jo (by first|exact xMf [(6,0,none)]|exact Ah rfl (by repeat' first|exact AC rfl rfl|refine Ay rfl rfl rfl ?_)) ?_;refine Ja ?_)|(refine Tx 6 ?_;refine jF ?_;refine jD ?_)|(refine Tx 7 ?_;refine Jo xEq ?_;refine Ja ?_)|(refine Tx 9 ?_;refine Jo xEq ?_;refine Ja ?_)|(refine Tx 10 ?_;refine Jm ?_;refine jF ?_;refine jA ?_;refine jD ?_;refine Jo (xCl Tryz.func62 (WH)) ?_;refine Jo (by first|exact xNt|exact xNg) ?_;refine Jo (xCc Tryz.func155 IX (args:=[_]) rfl) ?_;refine Js (xSk Aa) ?_))
  exact Ap rfl (.cons_ (rvW Aa rfl) .nil_)
 ·
  obtain ⟨a,hA0,ha0,hl0⟩:=B.a0 (by omega)
  have hl0:=hl0 (by omega)
  have hL0:=(List.getElem?_eq_some_iff.1 hA0).1
  have M0:=Ef t u c E y s s0 s1 sE 0 hA0 (by omega) (by omega) (by omega) (by omega) (by omega)
  obtain ⟨m0,hm0⟩:∃ m,mvP c.F E s (a:Int)=m:=⟨_,rfl⟩
  have t0:=DF (F:=c.F) s0 s1 sE (a:Int)
  rw [hm0] at M0 t0
  have WH:=Fc y.vn y.ve s (B.sv (by omega)) s0 s1
  have ib:=Hz (b:=(!Bl y.vn y.ve s)) s0 s1
  have IX:=II (!Bl y.vn y.ve s) s
  have C:=DB m0.1 m0.2 (ixP (!Bl y.vn y.ve s) s).1 (ixP (!Bl y.vn y.ve s) s).2 t0.ok ib.ok (Nat.le_trans (t0.lenN 257 (by decide)) (by decide)) (Nat.le_trans (ib.lenN 1 (by decide)) (by decide))
  rw [show Bd ps c.F c.R E y s=FY m0 (ixP (!Bl y.vn y.ve s) s) by unfold Bd;rw [if_neg (by omega),if_neg (by omega),if_neg (by omega),if_neg (by omega),if_neg (by omega),if_neg (by omega),if_neg (by omega),if_neg (by omega),ha0,hm0]]
  repeat' (with_reducible first|refine qq ?_|(refine Tx 0 ?_;refine Jn xBo ?_;refine Jn xBo ?_;refine Jn xBo ?_;refine Jn (xAl Aj) ?_)|(refine Tx 1 ?_;refine jF ?_;refine jD ?_;refine Jm ?_;refine Jo (xIr Ae (Bo hy)) ?_;refine jA ?_;refine Jn (xAl Aw) ?_;refine Js (xSk Au) ?_)|(refine Tx 2 ?_;refine jF ?_;refine jD ?_;refine Jm ?_;refine Jo (xIr Ab (Ak hFi)) ?_;refine jD ?_;refine Jn (xAl Bj) ?_;refine Js (by first|exact xS1 Al|exact xSk Al) ?_)|(refine Tx 3 ?_;refine jD ?_;refine Jo (xCl Tryz.func64 (UN)) ?_;refine Jn (xAl Aj) ?_;refine Js (xSk Aa) ?_)|(refine Tx 4 ?_;refine Jo (by first|exact xMf [(4,0,none),(5,0,none),(1,0,none),(2,0,none),(6,0,none)]|exact Ah rfl (by repeat' first|exact AC rfl rfl|refine Ay rfl rfl rfl ?_)) ?_;refine Ja ?_)|(refine Tx 5 ?_;refine Jo (by first|exact xMf [(6,0,none)]|exact Ah rfl (by repeat' first|exact AC rfl rfl|refine Ay rfl rfl rfl ?_)) ?_;refine Ja ?_)|(refine Tx 6 ?_;refine jF ?_;refine jD ?_)|(refine Tx 7 ?_;refine Jo xEq ?_;refine Ja ?_)|(refine Tx 9 ?_;refine Jo xEq ?_;refine Ja ?_)|(refine Tx 11 ?_;refine Jo xEq ?_;refine Ja ?_)|(refine Tx 12 ?_;refine Jo xEq ?_;refine Ja ?_)|(refine Tx 14 ?_;refine Jo xEq ?_;refine Ja ?_)|(refine Tx 15 ?_;refine Jo xEq ?_;refine Ja ?_)|(refine Tx 17 ?_;refine Jo xEq ?_;refine Ja ?_)|(refine Tx 18 ?_;refine Jo xEq ?_;refine Ja ?_)|(refine Tx 20 ?_;refine Jo xEq ?_;refine Ja ?_)|(refine Tx 22 ?_;refine Jo xEq ?_;refine Ja ?_)|(refine Tx 26 ?_;refine Jo xEq ?_;refine Ja ?_)|(refine Ba (id:=28) 10 AK (by kernel_rfl) ?_;dsimp only [List.take,List.drop];refine Km ?_;refine Ko (xCc Tryz.func154 M0 (args:=[_]) rfl) ?_;refine Km ?_;refine kF ?_;refine kA ?_;refine kD ?_;refine Ko (xCl Tryz.func62 (WH)) ?_;refine Ko (by first|exact xNt|exact xNg) ?_;refine Ko (xCc Tryz.func155 IX (args:=[_]) rfl) ?_;refine Ko (xCl Tryz.func156 (C)) ?_;refine Ke ?_;refine Js (xSk Aa) ?_))
  exact Ap rfl (.cons_ (rvW Aa rfl) .nil_)
 ·
  obtain ⟨a,hA0,ha0,hl0⟩:=B.a0 (by omega)
  have hl0:=hl0 (by omega)
  have hL0:=(List.getElem?_eq_some_iff.1 hA0).1
  obtain ⟨b,hA1,ha1,hl1⟩:=B.a1 (by omega)
  have hL1:=(List.getElem?_eq_some_iff.1 hA1).1
  have M0:=Ef t u c E y s s0 s1 sE 0 hA0 (by omega) (by omega) (by omega) (by omega) (by omega)
  obtain ⟨m0,hm0⟩:∃ m,mvP c.F E s (a:Int)=m:=⟨_,rfl⟩
  have t0:=DF (F:=c.F) s0 s1 sE (a:Int)
  rw [hm0] at M0 t0
  have M1:=Ef t u c E y s s0 s1 sE 1 hA1 (by omega) (by omega) (by omega) (by omega) (by omega)
  obtain ⟨m1,hm1⟩:∃ m,mvP c.F E s (b:Int)=m:=⟨_,rfl⟩
  have t1:=DF (F:=c.F) s0 s1 sE (b:Int)
  rw [hm1] at M1 t1
  have C:=BZ m0.1 m0.2 m1.1 m1.2 t0.ok t1.ok (Nat.le_trans (t0.lenN 257 (by decide)) (by decide)) (Nat.le_trans (t1.lenN 257 (by decide)) (by decide))
  rw [show Bd ps c.F c.R E y s=DD m0 m1 by unfold Bd;rw [if_neg (by omega),if_neg (by omega),if_pos (by omega),ha0,ha1,hm0,hm1]]
  repeat' (with_reducible first|refine qq ?_|(refine Tx 0 ?_;refine Jn xBo ?_;refine Jn xBo ?_;refine Jn xBo ?_;refine Jn (xAl Aj) ?_)|(refine Tx 1 ?_;refine jF ?_;refine jD ?_;refine Jm ?_;refine Jo (xIr Ae (Bo hy)) ?_;refine jA ?_;refine Jn (xAl Aw) ?_;refine Js (xSk Au) ?_)|(refine Tx 2 ?_;refine jF ?_;refine jD ?_;refine Jm ?_;refine Jo (xIr Ab (Ak hFi)) ?_;refine jD ?_;refine Jn (xAl Bj) ?_;refine Js (by first|exact xS1 Al|exact xSk Al) ?_)|(refine Tx 3 ?_;refine jD ?_;refine Jo (xCl Tryz.func64 (UN)) ?_;refine Jn (xAl Aj) ?_;refine Js (xSk Aa) ?_)|(refine Tx 4 ?_;refine Jo (by first|exact xMf [(4,0,none),(5,0,none),(1,0,none),(2,0,none),(6,0,none)]|exact Ah rfl (by repeat' first|exact AC rfl rfl|refine Ay rfl rfl rfl ?_)) ?_;refine Ja ?_)|(refine Tx 5 ?_;refine Jo (by first|exact xMf [(6,0,none)]|exact Ah rfl (by repeat' first|exact AC rfl rfl|refine Ay rfl rfl rfl ?_)) ?_;refine Ja ?_)|(refine Tx 6 ?_;refine jF ?_;refine jD ?_)|(refine Tx 7 ?_;refine Jo xEq ?_;refine Ja ?_)|(refine Tx 9 ?_;refine Jo xEq ?_;refine Ja ?_)|(refine Tx 11 ?_;refine Jo xEq ?_;refine Ja ?_)|(refine Tx 13 ?_;refine Jm ?_;refine Jo (xCc Tryz.func154 M0 (args:=[_]) rfl) ?_;refine Jm ?_;refine Jo (xCc Tryz.func154 M1 (args:=[_]) rfl) ?_;refine Jo (xCl Tryz.func152 (C)) ?_;refine Js (xSk Aa) ?_))
  exact Ap rfl (.cons_ (rvW Aa rfl) .nil_)
 ·
  obtain ⟨a,hA0,ha0,hl0⟩:=B.a0 (by omega)
  have hl0:=hl0 (by omega)
  have hL0:=(List.getElem?_eq_some_iff.1 hA0).1
  obtain ⟨b,hA1,ha1,hl1⟩:=B.a1 (by omega)
  have hL1:=(List.getElem?_eq_some_iff.1 hA1).1
  have M0:=Ef t u c E y s s0 s1 sE 0 hA0 (by omega) (by omega) (by omega) (by omega) (by omega)
  obtain ⟨m0,hm0⟩:∃ m,mvP c.F E s (a:Int)=m:=⟨_,rfl⟩
  have t0:=DF (F:=c.F) s0 s1 sE (a:Int)
  rw [hm0] at M0 t0
  have M1:=Ef t u c E y s s0 s1 sE 1 hA1 (by omega) (by omega) (by omega) (by omega) (by omega)
  obtain ⟨m1,hm1⟩:∃ m,mvP c.F E s (b:Int)=m:=⟨_,rfl⟩
  have t1:=DF (F:=c.F) s0 s1 sE (b:Int)
  rw [hm1] at M1 t1
  have C:=BZ m0.1 m0.2 m1.1 m1.2 t0.ok t1.ok (Nat.le_trans (t0.lenN 257 (by decide)) (by decide)) (Nat.le_trans (t1.lenN 257 (by decide)) (by decide))
  rw [show Bd ps c.F c.R E y s=DD m0 m1 by unfold Bd;rw [if_neg (by omega),if_neg (by omega),if_pos (by omega),ha0,ha1,hm0,hm1]]
  repeat' (with_reducible first|refine qq ?_|(refine Tx 0 ?_;refine Jn xBo ?_;refine Jn xBo ?_;refine Jn xBo ?_;refine Jn (xAl Aj) ?_)|(refine Tx 1 ?_;refine jF ?_;refine jD ?_;refine Jm ?_;refine Jo (xIr Ae (Bo hy)) ?_;refine jA ?_;refine Jn (xAl Aw) ?_;refine Js (xSk Au) ?_)|(refine Tx 2 ?_;refine jF ?_;refine jD ?_;refine Jm ?_;refine Jo (xIr Ab (Ak hFi)) ?_;refine jD ?_;refine Jn (xAl Bj) ?_;refine Js (by first|exact xS1 Al|exact xSk Al) ?_)|(refine Tx 3 ?_;refine jD ?_;refine Jo (xCl Tryz.func64 (UN)) ?_;refine Jn (xAl Aj) ?_;refine Js (xSk Aa) ?_)|(refine Tx 4 ?_;refine Jo (by first|exact xMf [(4,0,none),(5,0,none),(1,0,none),(2,0,none),(6,0,none)]|exact Ah rfl (by repeat' first|exact AC rfl rfl|refine Ay rfl rfl rfl ?_)) ?_;refine Ja ?_)|(refine Tx 5 ?_;refine Jo (by first|exact xMf [(6,0,none)]|exact Ah rfl (by repeat' first|exact AC rfl rfl|refine Ay rfl rfl rfl ?_)) ?_;refine Ja ?_)|(refine Tx 6 ?_;refine jF ?_;refine jD ?_)|(refine Tx 7 ?_;refine Jo xEq ?_;refine Ja ?_)|(refine Tx 9 ?_;refine Jo xEq ?_;refine Ja ?_)|(refine Tx 11 ?_;refine Jo xEq ?_;refine Ja ?_)|(refine Tx 12 ?_;refine Jo xEq ?_;refine Ja ?_)|(refine Tx 13 ?_;refine Jm ?_;refine Jo (xCc Tryz.func154 M0 (args:=[_]) rfl) ?_;refine Jm ?_;refine Jo (xCc Tryz.func154 M1 (args:=[_]) rfl) ?_;refine Jo (xCl Tryz.func152 (C)) ?_;refine Js (xSk Aa) ?_))
  exact Ap rfl (.cons_ (rvW Aa rfl) .nil_)
 ·
  obtain ⟨a,hA0,ha0,hl0⟩:=B.a0 (by omega)
  have hl0:=hl0 (by omega)
  have hL0:=(List.getElem?_eq_some_iff.1 hA0).1
  have M0:=Ef t u c E y s s0 s1 sE 0 hA0 (by omega) (by omega) (by omega) (by omega) (by omega)
  obtain ⟨m0,hm0⟩:∃ m,mvP c.F E s (a:Int)=m:=⟨_,rfl⟩
  have t0:=DF (F:=c.F) s0 s1 sE (a:Int)
  rw [hm0] at M0 t0
  rw [show Bd ps c.F c.R E y s=m0 by unfold Bd;rw [if_neg (by omega),if_neg (by omega),if_neg (by omega),if_pos (by omega),ha0,hm0]]
  repeat' (with_reducible first|refine qq ?_|(refine Tx 0 ?_;refine Jn xBo ?_;refine Jn xBo ?_;refine Jn xBo ?_;refine Jn (xAl Aj) ?_)|(refine Tx 1 ?_;refine jF ?_;refine jD ?_;refine Jm ?_;refine Jo (xIr Ae (Bo hy)) ?_;refine jA ?_;refine Jn (xAl Aw) ?_;refine Js (xSk Au) ?_)|(refine Tx 2 ?_;refine jF ?_;refine jD ?_;refine Jm ?_;refine Jo (xIr Ab (Ak hFi)) ?_;refine jD ?_;refine Jn (xAl Bj) ?_;refine Js (by first|exact xS1 Al|exact xSk Al) ?_)|(refine Tx 3 ?_;refine jD ?_;refine Jo (xCl Tryz.func64 (UN)) ?_;refine Jn (xAl Aj) ?_;refine Js (xSk Aa) ?_)|(refine Tx 4 ?_;refine Jo (by first|exact xMf [(4,0,none),(5,0,none),(1,0,none),(2,0,none),(6,0,none)]|exact Ah rfl (by repeat' first|exact AC rfl rfl|refine Ay rfl rfl rfl ?_)) ?_;refine Ja ?_)|(refine Tx 5 ?_;refine Jo (by first|exact xMf [(6,0,none)]|exact Ah rfl (by repeat' first|exact AC rfl rfl|refine Ay rfl rfl rfl ?_)) ?_;refine Ja ?_)|(refine Tx 6 ?_;refine jF ?_;refine jD ?_)|(refine Tx 7 ?_;refine Jo xEq ?_;refine Ja ?_)|(refine Tx 9 ?_;refine Jo xEq ?_;refine Ja ?_)|(refine Tx 11 ?_;refine Jo xEq ?_;refine Ja ?_)|(refine Tx 12 ?_;refine Jo xEq ?_;refine Ja ?_)|(refine Tx 14 ?_;refine Jo xEq ?_;refine Ja ?_)|(refine Tx 16 ?_;refine Jm ?_;refine Jo (xCc Tryz.func154 M0 (args:=[_]) rfl) ?_;refine Js (xSk Aa) ?_))
  exact Ap rfl (.cons_ (rvW Aa rfl) .nil_)
 ·
  obtain ⟨a,hA0,ha0,hl0⟩:=B.a0 (by omega)
  have hl0:=hl0 (by omega)
  have hL0:=(List.getElem?_eq_some_iff.1 hA0).1
  have hF0:=Hc (F:=c.F) (k:=a) (by omega)
  have hr0:=hsa (by omega) a (List.mem_of_getElem? hA0)
  rw [DM] at hr0
  have hv:=B.sv (by omega)
  have sv:=EA hv
  have hv2:=hv
  unfold EW at hv2
  have RV:=Fv y.vn y.ve hv
  have hEa:=RQ (E:=E) (k:=a) (by omega)
  have se:=Cz sE a
  obtain ⟨e,he⟩:∃ e,E[a]?.getD (0,0)=e:=⟨_,rfl⟩
  rw [he] at se hEa
  obtain ⟨r,hr⟩:∃ r,scA c.F a=r:=⟨_,rfl⟩
  rw [hr] at hF0 hr0
  obtain ⟨v,hvv⟩:∃ v,Ai y.vn 0 y.ve=v:=⟨_,rfl⟩
  rw [hvv] at RV sv
  have AB:=LF v.1 v.2 sv.ok (Nat.le_trans (sv.lenN 128 (by decide)) (by decide))
  have sa:=sv.abs
  have MU:=Ec (Gv v).1 (Gv v).2 e.1 e.2 sa.ok se.ok (Nat.le_trans (sa.lenN 128 (by decide)) (by decide)) (Nat.le_trans (se.lenN 128 (by decide)) (by decide)) (Nat.le_trans (Nat.add_le_add sa.d se.d) (by decide))
  have sm:=Sm.mul sa se (by decide)
  have ib:=Hz (b:=decide (s - r+y.ve<0)) s0 s1
  have IX:=II (decide (s - r+y.ve<0)) s
  have AD:=BZ (CT (Gv v) e).1 (CT (Gv v) e).2 (ixP (decide (s - r+y.ve<0)) s).1 (ixP (decide (s - r+y.ve<0)) s).2 sm.ok ib.ok (Nat.le_trans (sm.lenN 256 (by decide)) (by decide)) (Nat.le_trans (ib.lenN 1 (by decide)) (by decide))
  rw [show Bd ps c.F c.R E y s=DD (CT (Gv v) e) (ixP (decide (s - r+y.ve<0)) s) by unfold Bd;rw [if_neg (by omega),if_neg (by omega),if_neg (by omega),if_neg (by omega),if_neg (by omega),if_pos h,ha0,DM,EG,he,hr,hvv]]
  have FW:=Em r hr0.1 hr0.2
  repeat' (with_reducible first|refine qq ?_|(refine Tx 0 ?_;refine Jn xBo ?_;refine Jn xBo ?_;refine Jn xBo ?_;refine Jn (xAl Aj) ?_)|(refine Tx 1 ?_;refine jF ?_;refine jD ?_;refine Jm ?_;refine Jo (by first|exact xIr Ae (Bo hy)|exact xIr Ae (hEa)) ?_;refine jA ?_;refine Jn (xAl Aw) ?_;refine Js (xSk Au) ?_)|(refine Tx 2 ?_;refine jF ?_;refine jD ?_;refine Jm ?_;refine Jo (by first|exact xIr Ab (Ak hFi)|exact xIr Ab (Ak hF0)|exact xIr Ab (hEa)) ?_;refine jD ?_;refine Jn (xAl Bj) ?_;refine Js (by first|exact xS1 Al|exact xSk Al) ?_)|(refine Tx 3 ?_;refine jD ?_;refine Jo (xCl Tryz.func64 (UN)) ?_;refine Jn (xAl Aj) ?_;refine Js (xSk Aa) ?_)|(refine Tx 4 ?_;refine Jo (by first|exact xMf [(4,0,none),(5,0,none),(1,0,none),(2,0,none),(6,0,none)]|exact Ah rfl (by repeat' first|exact AC rfl rfl|refine Ay rfl rfl rfl ?_)) ?_;refine Ja ?_)|(refine Tx 5 ?_;refine Jo (by first|exact xMf [(6,0,none)]|exact Ah rfl (by repeat' first|exact AC rfl rfl|refine Ay rfl rfl rfl ?_)) ?_;refine Ja ?_)|(refine Tx 6 ?_;refine jF ?_;refine jD ?_)|(refine Tx 7 ?_;refine Jo xEq ?_;refine Ja ?_)|(refine Tx 9 ?_;refine Jo xEq ?_;refine Ja ?_)|(refine Tx 11 ?_;refine Jo xEq ?_;refine Ja ?_)|(refine Tx 12 ?_;refine Jo xEq ?_;refine Ja ?_)|(refine Tx 14 ?_;refine Jo xEq ?_;refine Ja ?_)|(refine Tx 15 ?_;refine Jo xEq ?_;refine Ja ?_)|(refine Tx 17 ?_;refine Jo xEq ?_;refine Ja ?_)|(refine Tx 18 ?_;refine Jo xEq ?_;refine Ja ?_)|(refine Tx 20 ?_;refine Jo xEq ?_;refine Ja ?_)|(refine Ba (id:=21) 31 AK (by kernel_rfl) ?_;dsimp only [List.take,List.drop];refine kF ?_;refine kA ?_;refine Ko (xCl Tryz.func141 (RV)) ?_;refine Ko (xCl Tryz.func158 (AB)) ?_;refine kD ?_;refine kF ?_;refine kD ?_;refine Ko (by first|exact xIr Ab (Ak hA0)|exact xIr Ab (hEa)) ?_;refine kD ?_;refine Ko (xIr Ac (hEa)) ?_;refine kA ?_;refine Ko (xCl Tryz.func157 (MU)) ?_;refine Km ?_;refine kD ?_;refine kF ?_;refine kD ?_;refine kF ?_;refine kD ?_;refine Ko (by first|exact xIr Ab (Ak hA0)|exact xIr Ab (hEa)) ?_;refine kD ?_;refine Ko (by first|exact xIr Ab (Ak hFi)|exact xIr Ab (Ak hF0)|exact xIr Ab (hEa)) ?_;refine kD ?_;refine Ko (xCl Tryz.func136 (FW)) ?_;refine Ko xSb ?_;refine kF ?_;refine kF ?_;refine kD ?_;refine Ko xAd ?_;refine Ko (by first|exact LV rfl rfl rfl|exact xLt) ?_;refine Ko (xCc Tryz.func155 IX (args:=[_]) rfl) ?_;refine Ko (xCl Tryz.func152 (AD)) ?_;refine Ke ?_;refine Js (xSk Aa) ?_))
  exact Ap rfl (.cons_ (rvW Aa rfl) .nil_)
 ·
  obtain ⟨a,hA0,ha0,hl0⟩:=B.a0 (by omega)
  have hl0:=hl0 (by omega)
  have hL0:=(List.getElem?_eq_some_iff.1 hA0).1
  obtain ⟨b,hA1,ha1,hl1⟩:=B.a1 (by omega)
  have hL1:=(List.getElem?_eq_some_iff.1 hA1).1
  have hF0:=Hc (F:=c.F) (k:=a) (by omega)
  have hr0:=hsa (by omega) a (List.mem_of_getElem? hA0)
  rw [DM] at hr0
  have hE0:=RQ (E:=E) (k:=a) (by omega)
  have se0:=Cz sE a
  obtain ⟨e0,he0⟩:∃ e,E[a]?.getD (0,0)=e:=⟨_,rfl⟩
  rw [he0] at se0 hE0
  obtain ⟨r0,hq0⟩:∃ r,scA c.F a=r:=⟨_,rfl⟩
  rw [hq0] at hF0 hr0
  have hI0:=TE (R:=c.R) (k:=a) (by omega)
  have si0:=Bf sR a
  obtain ⟨P0,hP0⟩:∃ P,c.R[a]?.getD iZ=P:=⟨_,rfl⟩
  rw [hP0] at si0 hI0
  have MG0:=Gn P0 (si0.more (show LB≤20000 by decide) (show LB≤20000 by decide))
  have sg0:=GG si0
  generalize hG0:Gw P0=G0 at MG0 sg0
  have hF1:=Hc (F:=c.F) (k:=b) (by omega)
  have hr1:=hsa (by omega) b (List.mem_of_getElem? hA1)
  rw [DM] at hr1
  have hE1:=RQ (E:=E) (k:=b) (by omega)
  have se1:=Cz sE b
  obtain ⟨e1,he1⟩:∃ e,E[b]?.getD (0,0)=e:=⟨_,rfl⟩
  rw [he1] at se1 hE1
  obtain ⟨r1,hq1⟩:∃ r,scA c.F b=r:=⟨_,rfl⟩
  rw [hq1] at hF1 hr1
  have hI1:=TE (R:=c.R) (k:=b) (by omega)
  have si1:=Bf sR b
  obtain ⟨P1,hP1⟩:∃ P,c.R[b]?.getD iZ=P:=⟨_,rfl⟩
  rw [hP1] at si1 hI1
  have MG1:=Gn P1 (si1.more (show LB≤20000 by decide) (show LB≤20000 by decide))
  have sg1:=GG si1
  generalize hG1:Gw P1=G1 at MG1 sg1
  have MA:=Ec G0.1 G0.2 e1.1 e1.2 sg0.ok se1.ok (Nat.le_trans (sg0.lenN 128 (by decide)) (by decide)) (Nat.le_trans (se1.lenN 128 (by decide)) (by decide)) (Nat.le_trans (Nat.add_le_add sg0.d se1.d) (by decide))
  have sMA:=Sm.mul sg0 se1 (by decide)
  have MB:=Ec G1.1 G1.2 e0.1 e0.2 sg1.ok se0.ok (Nat.le_trans (sg1.lenN 128 (by decide)) (by decide)) (Nat.le_trans (se0.lenN 128 (by decide)) (by decide)) (Nat.le_trans (Nat.add_le_add sg1.d se0.d) (by decide))
  have sMB:=Sm.mul sg1 se0 (by decide)
  have MC:=Ec e0.1 e0.2 e1.1 e1.2 se0.ok se1.ok (Nat.le_trans (se0.lenN 128 (by decide)) (by decide)) (Nat.le_trans (se1.lenN 128 (by decide)) (by decide)) (Nat.le_trans (Nat.add_le_add se0.d se1.d) (by decide))
  have sMC:=Sm.mul se0 se1 (by decide)
  generalize hA:CT G0 e1=A at *
  generalize hB:CT G1 e0=Bq at *
  generalize hC:CT e0 e1=Cq at *
  have hAe:Hw G0.1 G0.2 e1.1 e1.2=A:=hA
  have hBe:Hw G1.1 G1.2 e0.1 e0.2=Bq:=hB
  have hCe:Hw e0.1 e0.2 e1.1 e1.2=Cq:=hC
  rw [hAe] at MA sMA
  rw [hBe] at MB sMB
  rw [hCe] at MC sMC
  have D1:=BZ A.1 A.2 Bq.1 Bq.2 sMA.ok sMB.ok (Nat.le_trans (sMA.lenN 256 (by decide)) (by decide)) (Nat.le_trans (sMB.lenN 256 (by decide)) (by decide))
  have t1:Sm (DD A Bq) 16385 8192:=Sm.sum sMA sMB (by decide)
  generalize hS:DD A Bq=S1 at *
  have hSe:Cw A.1 A.2 Bq.1 Bq.2=S1:=hS
  rw [hSe] at D1
  have D2:=BZ S1.1 S1.2 Cq.1 Cq.2 t1.ok sMC.ok (Nat.le_trans (t1.lenN 513 (by decide)) (by decide)) (Nat.le_trans (sMC.lenN 256 (by decide)) (by decide))
  have t2:Sm (DD S1 Cq) 24578 8192:=Sm.sum t1 (sMC.more (by decide) (by decide)) (by decide)
  generalize hT:DD S1 Cq=S2 at *
  have hTe:Cw S1.1 S1.2 Cq.1 Cq.2=S2:=hT
  rw [hTe] at D2
  have ib:=Hz (b:=decide (s - r0 - r1<0)) s0 s1
  have IX:=II (decide (s - r0 - r1<0)) s
  have D3:=BZ S2.1 S2.2 (ixP (decide (s - r0 - r1<0)) s).1 (ixP (decide (s - r0 - r1<0)) s).2 t2.ok ib.ok (Nat.le_trans (t2.lenN 769 (by decide)) (by decide)) (Nat.le_trans (ib.lenN 1 (by decide)) (by decide))
  rw [show Bd ps c.F c.R E y s=DD S2 (ixP (decide (s - r0 - r1<0)) s) by unfold Bd;rw [if_neg (by omega),if_neg (by omega),if_neg (by omega),if_neg (by omega),if_neg (by omega),if_neg (by omega),if_pos h,ha0,ha1,DM,DM,EG,EG,IV,IV,he0,he1,hq0,hq1,hP0,hP1,hG0,hG1,hA,hB,hC,hS,hT]]
  have FW0:=Em r0 hr0.1 hr0.2
  have FW1:=Em r1 hr1.1 hr1.2
  repeat' (with_reducible first|refine qq ?_|(refine Tx 0 ?_;refine Jn xBo ?_;refine Jn xBo ?_;refine Jn xBo ?_;refine Jn (xAl Aj) ?_)|(refine Tx 1 ?_;refine jF ?_;refine jD ?_;refine Jm ?_;refine Jo (by first|exact xIr Ae (Bo hy)|exact xIr Ae (hE0)|exact xIr Ae (hE1)|exact xIr Ae (hI0)|exact xIr Ae (hI1)) ?_;refine jA ?_;refine Jn (xAl Aw) ?_;refine Js (xSk Au) ?_)|(refine Tx 2 ?_;refine jF ?_;refine jD ?_;refine Jm ?_;refine Jo (by first|exact xIr Ab (Ak hFi)|exact xIr Ab (Ak hF0)|exact xIr Ab (Ak hF1)|exact xIr Ab (hE0)|exact xIr Ab (hE1)|exact xIr Ab (hI0)|exact xIr Ab (hI1)) ?_;refine jD ?_;refine Jn (xAl Bj) ?_;refine Js (by first|exact xS1 Al|exact xSk Al) ?_)|(refine Tx 3 ?_;refine jD ?_;refine Jo (xCl Tryz.func64 (UN)) ?_;refine Jn (xAl Aj) ?_;refine Js (xSk Aa) ?_)|(refine Tx 4 ?_;refine Jo (by first|exact xMf [(4,0,none),(5,0,none),(1,0,none),(2,0,none),(6,0,none)]|exact Ah rfl (by repeat' first|exact AC rfl rfl|refine Ay rfl rfl rfl ?_)) ?_;refine Ja ?_)|(refine Tx 5 ?_;refine Jo (by first|exact xMf [(6,0,none)]|exact Ah rfl (by repeat' first|exact AC rfl rfl|refine Ay rfl rfl rfl ?_)) ?_;refine Ja ?_)|(refine Tx 6 ?_;refine jF ?_;refine jD ?_)|(refine Tx 7 ?_;refine Jo xEq ?_;refine Ja ?_)|(refine Tx 9 ?_;refine Jo xEq ?_;refine Ja ?_)|(refine Tx 11 ?_;refine Jo xEq ?_;refine Ja ?_)|(refine Tx 12 ?_;refine Jo xEq ?_;refine Ja ?_)|(refine Tx 14 ?_;refine Jo xEq ?_;refine Ja ?_)|(refine Tx 15 ?_;refine Jo xEq ?_;refine Ja ?_)|(refine Tx 17 ?_;refine Jo xEq ?_;refine Ja ?_)|(refine Tx 18 ?_;refine Jo xEq ?_;refine Ja ?_)|(refine Tx 20 ?_;refine Jo xEq ?_;refine Ja ?_)|(refine Tx 22 ?_;refine Jo xEq ?_;refine Ja ?_)|(refine AZ (id:=23) AK (by kernel_rfl) ?_;refine kF ?_;refine kD ?_;refine Ko (by first|exact xIr Ab (Ak hA0)|exact xIr Ab (hE0)|exact xIr Ab (hE1)|exact xIr Ab (hI0)|exact xIr Ab (hI1)) ?_;refine kD ?_;refine kF ?_;refine kD ?_;refine Ko (by first|exact xIr Ab (Ak hA1)|exact xIr Ab (hE0)|exact xIr Ab (hE1)|exact xIr Ab (hI0)|exact xIr Ab (hI1)) ?_;refine kD ?_;refine Ka ?_;refine Ka ?_;refine Ke ?_)|(refine Ba (id:=24) 24 AK (by kernel_rfl) ?_;dsimp only [List.take,List.drop];refine kF ?_;refine kD ?_;refine Km ?_;refine Ko (by first|exact xIr Af (hE0)|exact xIr Af (hE1)|exact xIr Af (hI0)|exact xIr Af (hI1)) ?_;refine kA ?_;refine Ko (by first|exact xCl Tryz.func159 (MG0)|exact xCl Tryz.func159 (MG1)) ?_;refine kD ?_;refine Km ?_;refine Ko (by first|exact xIr Ac (hE0)|exact xIr Ac (hE1)|exact xIr Ac (hI0)|exact xIr Ac (hI1)) ?_;refine kA ?_;refine Ko (by first|exact xCl Tryz.func157 (MA)|exact xCl Tryz.func157 (MB)|exact xCl Tryz.func157 (MC)) ?_;refine kF ?_;refine kD ?_;refine Km ?_;refine Ko (by first|exact xIr Af (hE0)|exact xIr Af (hE1)|exact xIr Af (hI0)|exact xIr Af (hI1)) ?_;refine kA ?_;refine Ko (by first|exact xCl Tryz.func159 (MG0)|exact xCl Tryz.func159 (MG1)) ?_;refine kD ?_;refine Km ?_;refine Ko (by first|exact xIr Ac (hE0)|exact xIr Ac (hE1)|exact xIr Ac (hI0)|exact xIr Ac (hI1)) ?_;refine kA ?_;refine Ko (by first|exact xCl Tryz.func157 (MA)|exact xCl Tryz.func157 (MB)|exact xCl Tryz.func157 (MC)) ?_;refine Ko (by first|exact xCl Tryz.func152 (D1)|exact xCl Tryz.func152 (D2)|exact xCl Tryz.func152 (D3)) ?_;refine Kn (xAl Aj) ?_;refine Ke ?_;refine Js (xSk Aa) ?_)|(refine Ba (id:=25) 30 AK (by kernel_rfl) ?_;dsimp only [List.take,List.drop];refine kA ?_;refine kD ?_;refine Km ?_;refine Ko (by first|exact xIr Ac (hE0)|exact xIr Ac (hE1)|exact xIr Ac (hI0)|exact xIr Ac (hI1)) ?_;refine kA ?_;refine kD ?_;refine Km ?_;refine Ko (by first|exact xIr Ac (hE0)|exact xIr Ac (hE1)|exact xIr Ac (hI0)|exact xIr Ac (hI1)) ?_;refine kA ?_;refine Ko (by first|exact xCl Tryz.func157 (MA)|exact xCl Tryz.func157 (MB)|exact xCl Tryz.func157 (MC)) ?_;refine Ko (by first|exact xCl Tryz.func152 (D1)|exact xCl Tryz.func152 (D2)|exact xCl Tryz.func152 (D3)) ?_;refine Km ?_;refine kD ?_;refine kF ?_;refine kD ?_;refine Km ?_;refine Ko (by first|exact xIr Ab (Ak hFi)|exact xIr Ab (Ak hF0)|exact xIr Ab (Ak hF1)|exact xIr Ab (hE0)|exact xIr Ab (hE1)|exact xIr Ab (hI0)|exact xIr Ab (hI1)) ?_;refine kD ?_;refine Ko (by first|exact xCl Tryz.func136 (FW0)|exact xCl Tryz.func136 (FW1)) ?_;refine Ko xSb ?_;refine kF ?_;refine kD ?_;refine Km ?_;refine Ko (by first|exact xIr Ab (Ak hFi)|exact xIr Ab (Ak hF0)|exact xIr Ab (Ak hF1)|exact xIr Ab (hE0)|exact xIr Ab (hE1)|exact xIr Ab (hI0)|exact xIr Ab (hI1)) ?_;refine kD ?_;refine Ko (by first|exact xCl Tryz.func136 (FW0)|exact xCl Tryz.func136 (FW1)) ?_;refine Ko xSb ?_;refine Ko (by first|exact LV rfl rfl rfl|exact xLt) ?_;refine Ko (xCc Tryz.func155 IX (args:=[_]) rfl) ?_;refine Ko (by first|exact xCl Tryz.func152 (D1)|exact xCl Tryz.func152 (D2)|exact xCl Tryz.func152 (D3)) ?_;refine Ke ?_;refine Js (xSk Aa) ?_))
  exact Ap rfl (.cons_ (rvW Aa rfl) .nil_)
 ·
  obtain ⟨a,hA0,ha0,hl0⟩:=B.a0 (by omega)
  have hl0:=hl0 (by omega)
  have hL0:=(List.getElem?_eq_some_iff.1 hA0).1
  obtain ⟨b,hA1,ha1,hl1⟩:=B.a1 (by omega)
  have hL1:=(List.getElem?_eq_some_iff.1 hA1).1
  have M0:=Ef t u c E y s s0 s1 sE 0 hA0 (by omega) (by omega) (by omega) (by omega) (by omega)
  obtain ⟨m0,hm0⟩:∃ m,mvP c.F E s (a:Int)=m:=⟨_,rfl⟩
  have t0:=DF (F:=c.F) s0 s1 sE (a:Int)
  rw [hm0] at M0 t0
  have M1:=Ef t u c E y s s0 s1 sE 1 hA1 (by omega) (by omega) (by omega) (by omega) (by omega)
  obtain ⟨m1,hm1⟩:∃ m,mvP c.F E s (b:Int)=m:=⟨_,rfl⟩
  have t1:=DF (F:=c.F) s0 s1 sE (b:Int)
  rw [hm1] at M1 t1
  have C:=DB m0.1 m0.2 m1.1 m1.2 t0.ok t1.ok (Nat.le_trans (t0.lenN 257 (by decide)) (by decide)) (Nat.le_trans (t1.lenN 257 (by decide)) (by decide))
  rw [show Bd ps c.F c.R E y s=FY m0 m1 by unfold Bd;rw [if_neg (by omega),if_neg (by omega),if_neg (by omega),if_neg (by omega),if_pos (by omega),ha0,ha1,hm0,hm1]]
  repeat' (with_reducible first|refine qq ?_|(refine Tx 0 ?_;refine Jn xBo ?_;refine Jn xBo ?_;refine Jn xBo ?_;refine Jn (xAl Aj) ?_)|(refine Tx 1 ?_;refine jF ?_;refine jD ?_;refine Jm ?_;refine Jo (xIr Ae (Bo hy)) ?_;refine jA ?_;refine Jn (xAl Aw) ?_;refine Js (xSk Au) ?_)|(refine Tx 2 ?_;refine jF ?_;refine jD ?_;refine Jm ?_;refine Jo (xIr Ab (Ak hFi)) ?_;refine jD ?_;refine Jn (xAl Bj) ?_;refine Js (by first|exact xS1 Al|exact xSk Al) ?_)|(refine Tx 3 ?_;refine jD ?_;refine Jo (xCl Tryz.func64 (UN)) ?_;refine Jn (xAl Aj) ?_;refine Js (xSk Aa) ?_)|(refine Tx 4 ?_;refine Jo (by first|exact xMf [(4,0,none),(5,0,none),(1,0,none),(2,0,none),(6,0,none)]|exact Ah rfl (by repeat' first|exact AC rfl rfl|refine Ay rfl rfl rfl ?_)) ?_;refine Ja ?_)|(refine Tx 5 ?_;refine Jo (by first|exact xMf [(6,0,none)]|exact Ah rfl (by repeat' first|exact AC rfl rfl|refine Ay rfl rfl rfl ?_)) ?_;refine Ja ?_)|(refine Tx 6 ?_;refine jF ?_;refine jD ?_)|(refine Tx 7 ?_;refine Jo xEq ?_;refine Ja ?_)|(refine Tx 9 ?_;refine Jo xEq ?_;refine Ja ?_)|(refine Tx 11 ?_;refine Jo xEq ?_;refine Ja ?_)|(refine Tx 12 ?_;refine Jo xEq ?_;refine Ja ?_)|(refine Tx 14 ?_;refine Jo xEq ?_;refine Ja ?_)|(refine Tx 15 ?_;refine Jo xEq ?_;refine Ja ?_)|(refine Tx 17 ?_;refine Jo xEq ?_;refine Ja ?_)|(refine Tx 19 ?_;refine Jm ?_;refine Jo (xCc Tryz.func154 M0 (args:=[_]) rfl) ?_;refine Jm ?_;refine Jo (xCc Tryz.func154 M1 (args:=[_]) rfl) ?_;refine Jo (xCl Tryz.func156 (C)) ?_;refine Js (xSk Aa) ?_))
  exact Ap rfl (.cons_ (rvW Aa rfl) .nil_)
 ·
  obtain ⟨a,hA0,ha0,hl0⟩:=B.a0 (by omega)
  have hl0:=hl0 (by omega)
  have hL0:=(List.getElem?_eq_some_iff.1 hA0).1
  obtain ⟨b,hA1,ha1,hl1⟩:=B.a1 (by omega)
  have hL1:=(List.getElem?_eq_some_iff.1 hA1).1
  have M0:=Ef t u c E y s s0 s1 sE 0 hA0 (by omega) (by omega) (by omega) (by omega) (by omega)
  obtain ⟨m0,hm0⟩:∃ m,mvP c.F E s (a:Int)=m:=⟨_,rfl⟩
  have t0:=DF (F:=c.F) s0 s1 sE (a:Int)
  rw [hm0] at M0 t0
  have M1:=Ef t u c E y s s0 s1 sE 1 hA1 (by omega) (by omega) (by omega) (by omega) (by omega)
  obtain ⟨m1,hm1⟩:∃ m,mvP c.F E s (b:Int)=m:=⟨_,rfl⟩
  have t1:=DF (F:=c.F) s0 s1 sE (b:Int)
  rw [hm1] at M1 t1
  have C:=DB m0.1 m0.2 m1.1 m1.2 t0.ok t1.ok (Nat.le_trans (t0.lenN 257 (by decide)) (by decide)) (Nat.le_trans (t1.lenN 257 (by decide)) (by decide))
  rw [show Bd ps c.F c.R E y s=FY m0 m1 by unfold Bd;rw [if_neg (by omega),if_neg (by omega),if_neg (by omega),if_neg (by omega),if_pos (by omega),ha0,ha1,hm0,hm1]]
  repeat' (with_reducible first|refine qq ?_|(refine Tx 0 ?_;refine Jn xBo ?_;refine Jn xBo ?_;refine Jn xBo ?_;refine Jn (xAl Aj) ?_)|(refine Tx 1 ?_;refine jF ?_;refine jD ?_;refine Jm ?_;refine Jo (xIr Ae (Bo hy)) ?_;refine jA ?_;refine Jn (xAl Aw) ?_;refine Js (xSk Au) ?_)|(refine Tx 2 ?_;refine jF ?_;refine jD ?_;refine Jm ?_;refine Jo (xIr Ab (Ak hFi)) ?_;refine jD ?_;refine Jn (xAl Bj) ?_;refine Js (by first|exact xS1 Al|exact xSk Al) ?_)|(refine Tx 3 ?_;refine jD ?_;refine Jo (xCl Tryz.func64 (UN)) ?_;refine Jn (xAl Aj) ?_;refine Js (xSk Aa) ?_)|(refine Tx 4 ?_;refine Jo (by first|exact xMf [(4,0,none),(5,0,none),(1,0,none),(2,0,none),(6,0,none)]|exact Ah rfl (by repeat' first|exact AC rfl rfl|refine Ay rfl rfl rfl ?_)) ?_;refine Ja ?_)|(refine Tx 5 ?_;refine Jo (by first|exact xMf [(6,0,none)]|exact Ah rfl (by repeat' first|exact AC rfl rfl|refine Ay rfl rfl rfl ?_)) ?_;refine Ja ?_)|(refine Tx 6 ?_;refine jF ?_;refine jD ?_)|(refine Tx 7 ?_;refine Jo xEq ?_;refine Ja ?_)|(refine Tx 9 ?_;refine Jo xEq ?_;refine Ja ?_)|(refine Tx 11 ?_;refine Jo xEq ?_;refine Ja ?_)|(refine Tx 12 ?_;refine Jo xEq ?_;refine Ja ?_)|(refine Tx 14 ?_;refine Jo xEq ?_;refine Ja ?_)|(refine Tx 15 ?_;refine Jo xEq ?_;refine Ja ?_)|(refine Tx 17 ?_;refine Jo xEq ?_;refine Ja ?_)|(refine Tx 18 ?_;refine Jo xEq ?_;refine Ja ?_)|(refine Tx 19 ?_;refine Jm ?_;refine Jo (xCc Tryz.func154 M0 (args:=[_]) rfl) ?_;refine Jm ?_;refine Jo (xCc Tryz.func154 M1 (args:=[_]) rfl) ?_;refine Jo (xCl Tryz.func156 (C)) ?_;refine Js (xSk Aa) ?_))
  exact Ap rfl (.cons_ (rvW Aa rfl) .nil_)
 ·
  obtain ⟨a,hA0,ha0,hl0⟩:=B.a0 (by omega)
  have hl0:=hl0 (by omega)
  have hL0:=(List.getElem?_eq_some_iff.1 hA0).1
  have M0:=Ef t u c E y s s0 s1 sE 0 hA0 (by omega) (by omega) (by omega) (by omega) (by omega)
  obtain ⟨m0,hm0⟩:∃ m,mvP c.F E s (a:Int)=m:=⟨_,rfl⟩
  have t0:=DF (F:=c.F) s0 s1 sE (a:Int)
  rw [hm0] at M0 t0
  rw [show Bd ps c.F c.R E y s=m0 by unfold Bd;rw [if_neg (by omega),if_neg (by omega),if_neg (by omega),if_pos (by omega),ha0,hm0]]
  repeat' (with_reducible first|refine qq ?_|(refine Tx 0 ?_;refine Jn xBo ?_;refine Jn xBo ?_;refine Jn xBo ?_;refine Jn (xAl Aj) ?_)|(refine Tx 1 ?_;refine jF ?_;refine jD ?_;refine Jm ?_;refine Jo (xIr Ae (Bo hy)) ?_;refine jA ?_;refine Jn (xAl Aw) ?_;refine Js (xSk Au) ?_)|(refine Tx 2 ?_;refine jF ?_;refine jD ?_;refine Jm ?_;refine Jo (xIr Ab (Ak hFi)) ?_;refine jD ?_;refine Jn (xAl Bj) ?_;refine Js (by first|exact xS1 Al|exact xSk Al) ?_)|(refine Tx 3 ?_;refine jD ?_;refine Jo (xCl Tryz.func64 (UN)) ?_;refine Jn (xAl Aj) ?_;refine Js (xSk Aa) ?_)|(refine Tx 4 ?_;refine Jo (by first|exact xMf [(4,0,none),(5,0,none),(1,0,none),(2,0,none),(6,0,none)]|exact Ah rfl (by repeat' first|exact AC rfl rfl|refine Ay rfl rfl rfl ?_)) ?_;refine Ja ?_)|(refine Tx 5 ?_;refine Jo (by first|exact xMf [(6,0,none)]|exact Ah rfl (by repeat' first|exact AC rfl rfl|refine Ay rfl rfl rfl ?_)) ?_;refine Ja ?_)|(refine Tx 6 ?_;refine jF ?_;refine jD ?_)|(refine Tx 7 ?_;refine Jo xEq ?_;refine Ja ?_)|(refine Tx 9 ?_;refine Jo xEq ?_;refine Ja ?_)|(refine Tx 11 ?_;refine Jo xEq ?_;refine Ja ?_)|(refine Tx 12 ?_;refine Jo xEq ?_;refine Ja ?_)|(refine Tx 14 ?_;refine Jo xEq ?_;refine Ja ?_)|(refine Tx 15 ?_;refine Jo xEq ?_;refine Ja ?_)|(refine Tx 16 ?_;refine Jm ?_;refine Jo (xCc Tryz.func154 M0 (args:=[_]) rfl) ?_;refine Js (xSk Aa) ?_))
  exact Ap rfl (.cons_ (rvW Aa rfl) .nil_)
 ·
  obtain ⟨a,hA0,ha0,hl0⟩:=B.a0 (by omega)
  have hl0:=hl0 (by omega)
  have hL0:=(List.getElem?_eq_some_iff.1 hA0).1
  have M0:=Ef t u c E y s s0 s1 sE 0 hA0 (by omega) (by omega) (by omega) (by omega) (by omega)
  obtain ⟨m0,hm0⟩:∃ m,mvP c.F E s (a:Int)=m:=⟨_,rfl⟩
  have t0:=DF (F:=c.F) s0 s1 sE (a:Int)
  rw [hm0] at M0 t0
  have WH:=Fc y.vn y.ve s (B.sv (by omega)) s0 s1
  have WU:=Fc y.un y.ue s (B.su h) s0 s1
  have ib:=Hz (b:=(!Bl y.vn y.ve s || !Bl y.un y.ue s)) s0 s1
  have IX:=II (!Bl y.vn y.ve s || !Bl y.un y.ue s) s
  have C:=DB m0.1 m0.2 (ixP (!Bl y.vn y.ve s || !Bl y.un y.ue s) s).1 (ixP (!Bl y.vn y.ve s || !Bl y.un y.ue s) s).2 t0.ok ib.ok (Nat.le_trans (t0.lenN 257 (by decide)) (by decide)) (Nat.le_trans (ib.lenN 1 (by decide)) (by decide))
  rw [show Bd ps c.F c.R E y s=FY m0 (ixP (!Bl y.vn y.ve s || !Bl y.un y.ue s) s) by unfold Bd;rw [if_neg (by omega),if_neg (by omega),if_neg (by omega),if_neg (by omega),if_neg (by omega),if_neg (by omega),if_neg (by omega),if_pos h,ha0,hm0]]
  cases hw:Bl y.vn y.ve s
  case false =>
   rw [hw] at WH IX C
   simp only [Bool.not_false,Bool.not_true,Bool.true_or,Bool.false_or] at IX C
   simp only [Bool.not_false,Bool.not_true,Bool.true_or,Bool.false_or]
   repeat' (with_reducible first|refine qq ?_|(refine Tx 0 ?_;refine Jn xBo ?_;refine Jn xBo ?_;refine Jn xBo ?_;refine Jn (xAl Aj) ?_)|(refine Tx 1 ?_;refine jF ?_;refine jD ?_;refine Jm ?_;refine Jo (xIr Ae (Bo hy)) ?_;refine jA ?_;refine Jn (xAl Aw) ?_;refine Js (xSk Au) ?_)|(refine Tx 2 ?_;refine jF ?_;refine jD ?_;refine Jm ?_;refine Jo (xIr Ab (Ak hFi)) ?_;refine jD ?_;refine Jn (xAl Bj) ?_;refine Js (by first|exact xS1 Al|exact xSk Al) ?_)|(refine Tx 3 ?_;refine jD ?_;refine Jo (xCl Tryz.func64 (UN)) ?_;refine Jn (xAl Aj) ?_;refine Js (xSk Aa) ?_)|(refine Tx 4 ?_;refine Jo (by first|exact xMf [(4,0,none),(5,0,none),(1,0,none),(2,0,none),(6,0,none)]|exact Ah rfl (by repeat' first|exact AC rfl rfl|refine Ay rfl rfl rfl ?_)) ?_;refine Ja ?_)|(refine Tx 5 ?_;refine Jo (by first|exact xMf [(6,0,none)]|exact Ah rfl (by repeat' first|exact AC rfl rfl|refine Ay rfl rfl rfl ?_)) ?_;refine Ja ?_)|(refine Tx 6 ?_;refine jF ?_;refine jD ?_)|(refine Tx 7 ?_;refine Jo xEq ?_;refine Ja ?_)|(refine Tx 9 ?_;refine Jo xEq ?_;refine Ja ?_)|(refine Tx 11 ?_;refine Jo xEq ?_;refine Ja ?_)|(refine Tx 12 ?_;refine Jo xEq ?_;refine Ja ?_)|(refine Tx 14 ?_;refine Jo xEq ?_;refine Ja ?_)|(refine Tx 15 ?_;refine Jo xEq ?_;refine Ja ?_)|(refine Tx 17 ?_;refine Jo xEq ?_;refine Ja ?_)|(refine Tx 18 ?_;refine Jo xEq ?_;refine Ja ?_)|(refine Tx 20 ?_;refine Jo xEq ?_;refine Ja ?_)|(refine Tx 22 ?_;refine Jo xEq ?_;refine Ja ?_)|(refine Tx 26 ?_;refine Jo xEq ?_;refine Ja ?_)|(refine Ba (id:=27) 17 AK (by kernel_rfl) ?_;dsimp only [List.take,List.drop];refine Km ?_;refine Ko (xCc Tryz.func154 M0 (args:=[_]) rfl) ?_;refine Km ?_;refine kF ?_;refine kA ?_;refine kD ?_;refine Ko (by first|exact xCl Tryz.func62 (WH)|exact xCl Tryz.func62 (WU)) ?_;refine Ko (by first|exact xNt|exact xNg) ?_;refine Km ?_;(first|iterate 5 refine Kd ?_|(refine Ky (xFa CH AI) ?_;refine Ky (xLa AI) ?_;refine Ky (xLd Al) ?_;refine Ky (by first|exact xCl Tryz.func62 (WH)|exact xCl Tryz.func62 (WU)) ?_;refine Ky (by first|exact xNt|exact xNg) ?_));refine Ko xPk ?_;refine Ko (xCc Tryz.func155 IX (args:=[_]) rfl) ?_;refine Ko (xCl Tryz.func156 (C)) ?_;refine Ke ?_;refine Js (xSk Aa) ?_))
   exact Ap rfl (.cons_ (rvW Aa rfl) .nil_)
  case true =>
   rw [hw] at WH IX C
   simp only [Bool.not_false,Bool.not_true,Bool.true_or,Bool.false_or] at IX C
   simp only [Bool.not_false,Bool.not_true,Bool.true_or,Bool.false_or]
   repeat' (with_reducible first|refine qq ?_|(refine Tx 0 ?_;refine Jn xBo ?_;refine Jn xBo ?_;refine Jn xBo ?_;refine Jn (xAl Aj) ?_)|(refine Tx 1 ?_;refine jF ?_;refine jD ?_;refine Jm ?_;refine Jo (xIr Ae (Bo hy)) ?_;refine jA ?_;refine Jn (xAl Aw) ?_;refine Js (xSk Au) ?_)|(refine Tx 2 ?_;refine jF ?_;refine jD ?_;refine Jm ?_;refine Jo (xIr Ab (Ak hFi)) ?_;refine jD ?_;refine Jn (xAl Bj) ?_;refine Js (by first|exact xS1 Al|exact xSk Al) ?_)|(refine Tx 3 ?_;refine jD ?_;refine Jo (xCl Tryz.func64 (UN)) ?_;refine Jn (xAl Aj) ?_;refine Js (xSk Aa) ?_)|(refine Tx 4 ?_;refine Jo (by first|exact xMf [(4,0,none),(5,0,none),(1,0,none),(2,0,none),(6,0,none)]|exact Ah rfl (by repeat' first|exact AC rfl rfl|refine Ay rfl rfl rfl ?_)) ?_;refine Ja ?_)|(refine Tx 5 ?_;refine Jo (by first|exact xMf [(6,0,none)]|exact Ah rfl (by repeat' first|exact AC rfl rfl|refine Ay rfl rfl rfl ?_)) ?_;refine Ja ?_)|(refine Tx 6 ?_;refine jF ?_;refine jD ?_)|(refine Tx 7 ?_;refine Jo xEq ?_;refine Ja ?_)|(refine Tx 9 ?_;refine Jo xEq ?_;refine Ja ?_)|(refine Tx 11 ?_;refine Jo xEq ?_;refine Ja ?_)|(refine Tx 12 ?_;refine Jo xEq ?_;refine Ja ?_)|(refine Tx 14 ?_;refine Jo xEq ?_;refine Ja ?_)|(refine Tx 15 ?_;refine Jo xEq ?_;refine Ja ?_)|(refine Tx 17 ?_;refine Jo xEq ?_;refine Ja ?_)|(refine Tx 18 ?_;refine Jo xEq ?_;refine Ja ?_)|(refine Tx 20 ?_;refine Jo xEq ?_;refine Ja ?_)|(refine Tx 22 ?_;refine Jo xEq ?_;refine Ja ?_)|(refine Tx 26 ?_;refine Jo xEq ?_;refine Ja ?_)|(refine Ba (id:=27) 17 AK (by kernel_rfl) ?_;dsimp only [List.take,List.drop];refine Km ?_;refine Ko (xCc Tryz.func154 M0 (args:=[_]) rfl) ?_;refine Km ?_;refine kF ?_;refine kA ?_;refine kD ?_;refine Ko (by first|exact xCl Tryz.func62 (WH)|exact xCl Tryz.func62 (WU)) ?_;refine Ko (by first|exact xNt|exact xNg) ?_;refine Km ?_;(first|iterate 5 refine Kd ?_|(refine Ky (xFa CH AI) ?_;refine Ky (xLa AI) ?_;refine Ky (xLd Al) ?_;refine Ky (by first|exact xCl Tryz.func62 (WH)|exact xCl Tryz.func62 (WU)) ?_;refine Ky (by first|exact xNt|exact xNg) ?_));refine Ko xPk ?_;refine Ko (xCc Tryz.func155 IX (args:=[_]) rfl) ?_;refine Ko (xCl Tryz.func156 (C)) ?_;refine Ke ?_;refine Js (xSk Aa) ?_))
   exact Ap rfl (.cons_ (rvW Aa rfl) .nil_)
theorem XR (t u:Bool) {ps:List Prt} {bs:List Bk} (os:List Int) (c:Ct) (E:List Pq) (hE:E.length=bs.length) (sE:∀ p∈E,Sm p LB LB) (i:Nat) {y:Bk} (hy:bs[i]?=some y) (B:XD ps bs.length y) (hF:c.F.length=bs.length) (hR:c.R.length=bs.length) (sR:∀ p∈c.R,IwS p LB LB) (hn:bs.length≤1000000) (hs2:0≤scA c.F i∧scA c.F i≤30):CV Tryz.prog Ax 67 [aDg t ps bs os,.agg (dCt u c),.one (QE E),aI (i:Int)] [aB (Uy c.F c.R E y i)]:=by
 refine cvz Tryz.func67 Tryz.ntmps67 ?_
 have hil:=(List.getElem?_eq_some_iff.1 hy).1
 have hFi:=Hc (F:=c.F) (k:=i) (by omega)
 obtain ⟨s,hs⟩:∃ s,scA c.F i=s:=⟨_,rfl⟩
 rw [hs] at hFi
 have hBl:=B.len
 rw [hs] at hs2
 have hil2:i<c.R.length:=by omega
 have hIi:=TE hil2
 have hEi:=RQ (E:=E) (k:=i) (by omega)
 have si:=Bf sR i
 have se:=Cz sE i
 obtain ⟨P,hP⟩:∃ P,c.R[i]?.getD iZ=P:=⟨_,rfl⟩
 obtain ⟨e,he⟩:∃ e,E[i]?.getD (0,0)=e:=⟨_,rfl⟩
 rw [hP] at si hIi
 rw [he] at se hEi
 have MG:=Gn P (si.more (show LB≤20000 by decide) (show LB≤20000 by decide))
 have sg:=GG si
 obtain ⟨M,hM⟩:∃ M,Gw P=M:=⟨_,rfl⟩
 rw [hM] at MG sg
 have OF:=FV 2147483647 (by decide) (by decide)
 have AD1:=BZ M.1 M.2 e.1 e.2 sg.ok se.ok (Nat.le_trans (sg.lenN 128 (by decide)) (by decide)) (Nat.le_trans (se.lenN 128 (by decide)) (by decide))
 have ss1:=Sm.sum sg se (by decide)
 obtain ⟨S1,hS1⟩:∃ S,Cw M.1 M.2 e.1 e.2=S:=⟨_,rfl⟩
 rw [hS1] at AD1 ss1
 have SH1:=Ca S1.1 S1.2 s ss1.ok (Nat.le_trans (ss1.lenN 257 (by decide)) (by decide)) (by have:=ss1.ok.1;omega)
 have st1:=Gc ss1 hs2.1 hs2.2
 obtain ⟨T1,hT1⟩:∃ T,Ai S1.1 S1.2 s=T:=⟨_,rfl⟩
 rw [show GF S1 s=T1 from hT1] at st1
 rw [hT1] at SH1
 have CM1:=CY T1.1 T1.2 2147483647 0 st1.ok ⟨by decide,fun h=>absurd rfl h⟩ (Nat.le_trans (st1.lenN 258 (by decide)) (by decide)) (Nat.le_trans (Bb (k:=2) (by decide)) (by decide))
 have sb1:Fb (DD M e) s=decide (Cl T1.1 T1.2 2147483647 0≤0):=by rw [Afo,hS1,hT1]
 generalize Cl T1.1 T1.2 2147483647 0=q1 at *
 have hb:Uy c.F c.R E y i=(decide (q1≤0) && (!decide (y.kind=11) || Fb (DD (rG c.R (Cg y)).2 (eG E (Cg y))) s)):=by unfold Uy;rw [hs,hP,he,hM,sb1]
 rw [hb]
 by_cases c1:q1≤0
 case neg =>
  rw [decide_eq_false c1,Bool.false_and]
  repeat' (with_reducible first|refine qq ?_|(refine Tx 0 ?_;refine Jn xBo ?_;refine Jn xBo ?_;refine Ja ?_)|(refine Tx 1 ?_;refine Jo (xCl Tryz.func68 (OF)) ?_;refine Jn (xAl Aj) ?_;refine Js (xSk Aa) ?_)|(refine Tx 2 ?_;refine jF ?_;refine jD ?_;refine Jm ?_;refine Jo (by first|exact xIr Ab (Ak hFi)|exact xIr Ab (hIi)|exact xIr Ab (hEi)) ?_;refine jD ?_;refine Ja ?_)|(refine AZ (id:=3) AK (by kernel_rfl) ?_;refine kF ?_;refine kD ?_;refine Km ?_;refine Ko (by first|exact xIr Af (hIi)|exact xIr Af (hEi)) ?_;refine kA ?_;refine Ko (xCl Tryz.func159 (MG)) ?_;refine Km ?_;refine Km ?_;refine Ko (by first|exact xIr Ac (hIi)|exact xIr Ac (hEi)) ?_;refine kA ?_;refine Ko (xCl Tryz.func152 (AD1)) ?_;refine Km ?_;refine Ko (xCl Tryz.func21 (SH1)) ?_;refine kA ?_;refine Ko (xCl Tryz.func15 (CM1)) ?_;refine Ko xGt ?_;refine Ke ?_)|(refine Tx 4 ?_;refine Ja ?_))
  exact Ap rfl (.cons_ (BL rfl (rfl)) .nil_)
 rw [decide_eq_true c1,Bool.true_and]
 by_cases k11:y.kind=11
 case neg =>
  rw [decide_eq_false k11,Bool.not_false,Bool.true_or]
  repeat' (with_reducible first|refine qq ?_|(refine Tx 0 ?_;refine Jn xBo ?_;refine Jn xBo ?_;refine Ja ?_)|(refine Tx 1 ?_;refine Jo (xCl Tryz.func68 (OF)) ?_;refine Jn (xAl Aj) ?_;refine Js (xSk Aa) ?_)|(refine Tx 2 ?_;refine jF ?_;refine jD ?_;refine Jm ?_;refine Jo (by first|exact xIr Ab (Ak hFi)|exact xIr Ab (hIi)|exact xIr Ab (hEi)) ?_;refine jD ?_;refine Ja ?_)|(refine AZ (id:=3) AK (by kernel_rfl) ?_;refine kF ?_;refine kD ?_;refine Km ?_;refine Ko (by first|exact xIr Af (hIi)|exact xIr Af (hEi)) ?_;refine kA ?_;refine Ko (xCl Tryz.func159 (MG)) ?_;refine Km ?_;refine Km ?_;refine Ko (by first|exact xIr Ac (hIi)|exact xIr Ac (hEi)) ?_;refine kA ?_;refine Ko (xCl Tryz.func152 (AD1)) ?_;refine Km ?_;refine Ko (xCl Tryz.func21 (SH1)) ?_;refine kA ?_;refine Ko (xCl Tryz.func15 (CM1)) ?_;refine Ko xGt ?_;refine Ke ?_)|(refine Tx 5 ?_;refine jF ?_;refine jD ?_;refine Jm ?_;refine Jo (by first|exact xIr Ae (Bo hy)|exact xIr Ae (hIi)|exact xIr Ae (hEi)) ?_;refine jA ?_;refine Jn (xAl Aw) ?_;refine Js (xSk Au) ?_)|(refine Tx 6 ?_;refine jF ?_;refine jD ?_;refine Jo xNe ?_)|(refine Tx 7 ?_;refine Ja ?_))
  exact Ap rfl (.cons_ (BL rfl (rfl)) .nil_)
 rw [decide_eq_true k11,Bool.not_true,Bool.false_or]
 obtain ⟨a,hA0,ha0,hl0⟩:=B.a0 (by omega)
 have hl0:=hl0 (by omega)
 have hL0:=(List.getElem?_eq_some_iff.1 hA0).1
 rw [ha0,IV,EG]
 have hIa:=TE (R:=c.R) (k:=a) (by omega)
 have hEa:=RQ (E:=E) (k:=a) (by omega)
 have sj:=Bf sR a
 have sf:=Cz sE a
 obtain ⟨Q,hQ⟩:∃ Q,c.R[a]?.getD iZ=Q:=⟨_,rfl⟩
 obtain ⟨f,hf⟩:∃ f,E[a]?.getD (0,0)=f:=⟨_,rfl⟩
 rw [hQ] at sj hIa
 rw [hf] at sf hEa
 rw [hQ,hf]
 have sq:=sj.s2
 have AD2:=BZ Q.2.1 Q.2.2 f.1 f.2 sq.ok sf.ok (Nat.le_trans (sq.lenN 128 (by decide)) (by decide)) (Nat.le_trans (sf.lenN 128 (by decide)) (by decide))
 have ss2:=Sm.sum sq sf (by decide)
 obtain ⟨S2,hS2⟩:∃ S,Cw Q.2.1 Q.2.2 f.1 f.2=S:=⟨_,rfl⟩
 rw [hS2] at AD2 ss2
 have SH2:=Ca S2.1 S2.2 s ss2.ok (Nat.le_trans (ss2.lenN 257 (by decide)) (by decide)) (by have:=ss2.ok.1;omega)
 have st2:=Gc ss2 hs2.1 hs2.2
 obtain ⟨T2,hT2⟩:∃ T,Ai S2.1 S2.2 s=T:=⟨_,rfl⟩
 rw [show GF S2 s=T2 from hT2] at st2
 rw [hT2] at SH2
 have CM2:=CY T2.1 T2.2 2147483647 0 st2.ok ⟨by decide,fun h=>absurd rfl h⟩ (Nat.le_trans (st2.lenN 258 (by decide)) (by decide)) (Nat.le_trans (Bb (k:=2) (by decide)) (by decide))
 have sb2:Fb (DD Q.2 f) s=decide (Cl T2.1 T2.2 2147483647 0≤0):=by rw [Afo,hS2,hT2]
 generalize Cl T2.1 T2.2 2147483647 0=q2 at *
 rw [sb2]
 repeat' (with_reducible first|refine qq ?_|(refine Tx 0 ?_;refine Jn xBo ?_;refine Jn xBo ?_;refine Ja ?_)|(refine Tx 1 ?_;refine Jo (xCl Tryz.func68 (OF)) ?_;refine Jn (xAl Aj) ?_;refine Js (xSk Aa) ?_)|(refine Tx 2 ?_;refine jF ?_;refine jD ?_;refine Jm ?_;refine Jo (by first|exact xIr Ab (Ak hFi)|exact xIr Ab (hIi)|exact xIr Ab (hEi)|exact xIr Ab (hIa)|exact xIr Ab (hEa)) ?_;refine jD ?_;refine Ja ?_)|(refine AZ (id:=3) AK (by kernel_rfl) ?_;refine kF ?_;refine kD ?_;refine Km ?_;refine Ko (by first|exact xIr Af (hIi)|exact xIr Af (hEi)|exact xIr Af (hIa)|exact xIr Af (hEa)) ?_;refine kA ?_;refine Ko (xCl Tryz.func159 (MG)) ?_;refine Km ?_;refine Km ?_;refine Ko (by first|exact xIr Ac (hIi)|exact xIr Ac (hEi)|exact xIr Ac (hIa)|exact xIr Ac (hEa)) ?_;refine kA ?_;refine Ko (by first|exact xCl Tryz.func152 (AD1)|exact xCl Tryz.func152 (AD2)) ?_;refine Km ?_;refine Ko (by first|exact xCl Tryz.func21 (SH1)|exact xCl Tryz.func21 (SH2)) ?_;refine kA ?_;refine Ko (by first|exact xCl Tryz.func15 (CM1)|exact xCl Tryz.func15 (CM2)) ?_;refine Ko xGt ?_;refine Ke ?_)|(refine Tx 5 ?_;refine jF ?_;refine jD ?_;refine Jm ?_;refine Jo (by first|exact xIr Ae (Bo hy)|exact xIr Ae (hIi)|exact xIr Ae (hEi)|exact xIr Ae (hIa)|exact xIr Ae (hEa)) ?_;refine jA ?_;refine Jn (xAl Aw) ?_;refine Js (xSk Au) ?_)|(refine Tx 6 ?_;refine jF ?_;refine jD ?_;refine Jo xNe ?_)|(refine Tx 8 ?_;refine jF ?_;refine jD ?_;refine Jo (by first|exact xIr Ab (hIi)|exact xIr Ab (hEi)|exact xIr Ab (Ak hA0)|exact xIr Ab (hIa)|exact xIr Ab (hEa)) ?_;refine jD ?_;refine Ja ?_)|(refine AZ (id:=9) AK (by kernel_rfl) ?_;refine kF ?_;refine kD ?_;refine Km ?_;refine Ko (by first|exact xIr Af (hIi)|exact xIr Af (hEi)|exact xIr Af (hIa)|exact xIr Af (hEa)) ?_;refine kF ?_;refine kA ?_;refine Km ?_;refine Km ?_;refine Ko (by first|exact xIr Ac (hIi)|exact xIr Ac (hEi)|exact xIr Ac (hIa)|exact xIr Ac (hEa)) ?_;refine kA ?_;refine Ko (by first|exact xCl Tryz.func152 (AD1)|exact xCl Tryz.func152 (AD2)) ?_;refine Km ?_;refine Ko (by first|exact xCl Tryz.func21 (SH1)|exact xCl Tryz.func21 (SH2)) ?_;refine kA ?_;refine Ko (by first|exact xCl Tryz.func15 (CM1)|exact xCl Tryz.func15 (CM2)) ?_;refine Ko xLe ?_;refine Ka ?_;refine Ke ?_))
 exact Ap rfl (.cons_ (BL rfl (rfl)) .nil_)
theorem Dw.sc {ps:List Prt} {bs:List Bk} {os:List Int} {c:Ct} (A:Dw ps bs os c) {i:Nat} {y:Bk} (hy:bs[i]?=some y):(0≤scA c.F i∧scA c.F i≤30)∧(y.kind≠0→∀ a∈y.args,0≤sG c.F a∧sG c.F a≤30)∧GW ps c.F y (scA c.F i)=true:=by
 have h1s:=(A.parts hy).1
 unfold DL at h1s
 rw [Bool.and_eq_true,Bool.and_eq_true] at h1s
 refine ⟨of_decide_eq_true h1s.1,fun k0 a ha=>?_,h1s.2.2⟩
 have h2:=h1s.2.1
 rw [decide_eq_false k0,Bool.false_or] at h2
 exact of_decide_eq_true (List.all_eq_true.1 h2 a ha)
theorem Ha (t:Bool) {ps:List Prt} {bs:List Bk} {os:List Int} (hl:Lb ps bs os) (F:List Int) (qs:List (Rv × Rv)) (rs:List Rv) (hwq:∀ q∈qs,RvL q.1∧RvL q.2) (hwr:∀ r∈rs,RvL r) (hFl:F.length≤1000000) (hQl:qs.length≤1000000) (hRl:rs.length≤1000000) (h0:ckE ps bs os F qs rs=0) (A:Dw ps bs os (MW F qs rs)) (hup:∀ p∈(MW F qs rs).E,gv (upQ p)=gv p) (m:Nat) (m1:1≤m) (m2:m≤128):CV Tryz.prog Ax 16 [aDg t ps bs os,.agg (dCr false F qs rs),aI (m:Int)] [.one (GU (hzL ps bs (MW F qs rs) m)),aB (hzC bs (MW F qs rs).F (hzR ps bs (MW F qs rs) (m - 1))),aE 0]:=by
 refine cvz Tryz.func16 Tryz.ntmps16 ?_
 have CK:=NQ t false hl F qs rs hwq hwr hFl hQl hRl
 rw [h0] at CK
 obtain ⟨hd,ok,hdc,_,_⟩:=XH hwq hwr h0
 rw [hdc] at CK
 rw [hdc]
 generalize MW F qs rs=c at *
 have hn:=hl.l2
 have hpn:=hl.l1
 have OC:=(YS t hl (ps:=ps) (bs:=bs) (os:=os)).cv
 have DC:=(Wv t hl (ps:=ps) (bs:=bs) (os:=os)).cv
 rw [if_pos hd,hd] at OC DC
 have hnl:=DU (CA bs)
 have hol:=DU (Dc bs)
 have hob:=Acv (bs:=bs)
 have hdb:=AcH bs
 repeat' (with_reducible first|refine qq ?_|(refine Tx 0 ?_;refine Jn xBo ?_;refine Jn xBo ?_;refine Ja ?_;refine Ja ?_;refine Ja ?_)|(refine Tx 1 ?_;refine jA ?_;refine jA ?_;refine Jo (xCl Tryz.func49 (CK)) ?_;refine Ja ?_)|(refine Tx 2 ?_;refine Jm ?_;refine Jo (xNE AQ) ?_)|(refine Tx 4 ?_;refine Jm ?_;refine Jo xLt ?_;refine Jm ?_;(first|iterate 2 refine Jd ?_|(refine Jy xM1 ?_;refine Jy xGt ?_));refine Jo xPk ?_)|(refine Tx 6 ?_;refine jF ?_;refine jD ?_;refine jN ?_;refine Jm ?_))
 refine CF (F':=ofL [(2,vi ((m:Nat))),(3,vr 0),(4,vr 1),(41,vd (EX t bs)),(42,vi bs.length),(43,vi ((0:Nat)))]) (H':=[.box 26 [.d (Fk t ps),.d (EX t bs),.d (BQ t os)],.box 30 [.d (BQ false c.F),.d (.row false 6 c.R.length (AN (dIw false) c.R)),.d (.row false 3 c.E.length (AN dyP c.E))]]) (BM _ 2 ?_ ?_ ?_) ?_
 ·rfl
 ·exact mB rfl rfl
 ·exact ⟨AF rfl,AF rfl,trivial⟩
 refine Bp (fun n Fr H=>∃ k:Nat,k≤bs.length∧n=bs.length - k∧Fr=ofL [(2,vi ((m:Nat))),(3,vr 0),(4,vr 1),(41,vd (EX t bs)),(42,vi bs.length),(43,vi ((k:Nat)))]∧H=[.box 26 [.d (Fk t ps),.d (EX t bs),.d (BQ t os)],.box 30 [.d (BQ false c.F),.d (.row false 6 c.R.length (AN (dIw false) c.R)),.d (.row false 3 c.E.length (AN dyP c.E))]]) (n0:=bs.length) ⟨0,Nat.zero_le _,rfl,rfl,rfl⟩ ?_
 rintro n Fr H ⟨k,hk,rfl,rfl,rfl⟩
 by_cases hlt:k<bs.length
 case pos =>
  obtain ⟨y,hy⟩:∃ y,bs[k]?=some y:=⟨_,List.getElem?_eq_getElem hlt⟩
  obtain ⟨hs2,hsa,hsf⟩:=A.sc hy
  have B:=Uz hd hy
  have SC:=RX t false os c k hy B ok.lF hn hpn hs2 hsa
  rw [hsf] at SC
  have RG:=RY t false os c k hy B ok.lR ok.sR hn hpn
  rw [(A.parts hy).2.1] at RG
  repeat' (with_reducible first|refine qq ?_|(refine Tx 7 ?_;refine Jo xLt ?_)|(refine Tx 8 ?_;refine Jm ?_;refine Ja ?_)|(refine Tx 9 ?_;refine jA ?_;refine jA ?_;refine Jm ?_;refine Jo (xCl Tryz.func58 (SC)) ?_;refine Jo (by first|exact xNt|exact xNg) ?_;refine Jm ?_;(first|iterate 5 refine Jd ?_|(refine Jy (xLa Bi) ?_;refine Jy (xLa CC) ?_;refine Jy xM1 ?_;refine Jy (xCl Tryz.func59 (RG)) ?_;refine Jy (by first|exact xNt|exact xNg) ?_));refine Jo xPk ?_)|(refine Tx 11 ?_;refine Jo xAd ?_;refine Jm ?_))
  refine ⟨_,_,BM _ 2 ?_ ?_ ?_,_,by omega,k+1,by omega,rfl,rfl,rfl⟩
  ·rfl
  ·exact mB rfl rfl
  ·exact ⟨AF rfl,AF rfl,trivial⟩
 obtain rfl:k=bs.length:=by omega
 clear hlt hk
 repeat' (with_reducible first|refine qq ?_|(refine Tx 7 ?_;refine Jo xLt ?_)|(refine Tx 12 ?_;refine jA ?_;refine Jo (xCl Tryz.func60 (OC)) ?_;refine Jo xMt ?_;refine Jo xEx ?_;refine Jo xEx ?_;refine Ja ?_;refine Ja ?_)|(refine Tx 13 ?_;refine Jm ?_;refine Jo (xNE AQ) ?_)|(refine Tx 15 ?_;refine jA ?_;refine Jo (xCl Tryz.func19 (DC)) ?_;refine Jo xMt ?_;refine Jo xEx ?_;refine Jo xEx ?_;refine Ja ?_;refine Ja ?_)|(refine Tx 16 ?_;refine Jm ?_;refine Jo (xNE AQ) ?_)|(refine Tx 18 ?_;refine Ja ?_))
 refine CF (Aab 14 28 1 rfl) ?_
 repeat' (with_reducible first|refine qq ?_|(refine Tx 19 ?_;refine Jm ?_;refine Jm ?_))
 refine CF (F':=ofL [(2,vi ((m:Nat))),(3,vr 0),(4,vr 1),(11,vd (BQ false (Cs (Dc bs)))),(13,vd (BQ false (Cs (CA bs)))),(14,vo 2 ((hzL ps bs c 0).length)),(76,vi ((m:Nat))),(77,vi ((0:Nat)))]) (H':=[.box 26 [.d (Fk t ps),.d (EX t bs),.d (BQ t os)],.box 30 [.d (BQ false c.F),.d (.row false 6 c.R.length (AN (dIw false) c.R)),.d (.row false 3 c.E.length (AN dyP c.E))],.row 28 1 (hzL ps bs c (0)).length (((hzL ps bs c (0)).map dRw).map C.d)]) (BM _ 3 ?_ ?_ ?_) ?_
 ·rfl
 ·exact mB rfl rfl
 ·exact ⟨AF rfl,AF rfl,Eb,trivial⟩
 refine Bp (fun n Fr H=>∃ k:Nat,k≤m∧n=m - k∧Fr=ofL [(2,vi ((m:Nat))),(3,vr 0),(4,vr 1),(11,vd (BQ false (Cs (Dc bs)))),(13,vd (BQ false (Cs (CA bs)))),(14,vo 2 ((hzL ps bs c k).length)),(76,vi ((m:Nat))),(77,vi ((k:Nat)))]∧H=[.box 26 [.d (Fk t ps),.d (EX t bs),.d (BQ t os)],.box 30 [.d (BQ false c.F),.d (.row false 6 c.R.length (AN (dIw false) c.R)),.d (.row false 3 c.E.length (AN dyP c.E))],.row 28 1 (hzL ps bs c (k)).length (((hzL ps bs c (k)).map dRw).map C.d)]) (n0:=m) ⟨0,Nat.zero_le _,rfl,rfl,rfl⟩ ?_
 rintro n Fr H ⟨k,hk,rfl,rfl,rfl⟩
 have hLk:=Pd ps bs c k
 by_cases hlt:k<m
 case pos =>
  obtain ⟨pv,hpv⟩:∃ pv,AgC ps bs c k=pv:=⟨_,rfl⟩
  have hP:∀ E,pv=some E→(∀ p∈E,Sm p 128 62)∧InE E c.E:=fun E he=>(A.P_in hup k E (hpv.trans he)).2
  repeat' (with_reducible first|refine qq ?_|(refine Tx 20 ?_;refine Jo xLt ?_)|(refine Tx 21 ?_;refine Jm ?_;refine Ja ?_)|(refine Tx 22 ?_;refine jF ?_;refine jD ?_;refine jN ?_;refine Jn (by first|exact Zo (n:=bs.length) rfl rfl rfl Ac Aj (by omega) (by decide)|exact CR rfl rfl rfl Ac Aj (by omega) (by decide)) ?_;refine Ja ?_)|(refine Tx 23 ?_;refine Jm ?_;refine jN ?_;refine Jm ?_))
  rw [show (List.replicate bs.length none:List (Option Pq))=(hzD bs c.F pv (0)) from rfl]
  refine CF (F':=ofL [(2,vi ((m:Nat))),(3,vr 0),(4,vr 1),(11,vd (BQ false (Cs (Dc bs)))),(13,vd (BQ false (Cs (CA bs)))),(14,vo 2 ((hzL ps bs c k).length)),(76,vi ((m:Nat))),(15,vi ((k:Nat))),(16,vo 3 bs.length),(77,vi ((k:Nat))),(84,vd (BQ false (Cs (CA bs)))),(85,vi ((CA bs).length)),(86,vi ((0:Nat)))]) (H':=[.box 26 [.d (Fk t ps),.d (EX t bs),.d (BQ t os)],.box 30 [.d (BQ false c.F),.d (.row false 6 c.R.length (AN (dIw false) c.R)),.d (.row false 3 c.E.length (AN dyP c.E))],.row 28 1 (hzL ps bs c (k)).length (((hzL ps bs c (k)).map dRw).map C.d),.row 43 3 bs.length (cVs (hzD bs c.F pv (0)))]) (BM _ 4 ?_ ?_ ?_) ?_
  ·rfl
  ·rw [←hnl];exact mB rfl rfl
  ·exact ⟨AF rfl,AF rfl,Eb,Iz,trivial⟩
  refine Bp (fun n Fr H=>∃ j:Nat,j≤(CA bs).length∧n=(CA bs).length - j∧Fr=ofL [(2,vi ((m:Nat))),(3,vr 0),(4,vr 1),(11,vd (BQ false (Cs (Dc bs)))),(13,vd (BQ false (Cs (CA bs)))),(14,vo 2 ((hzL ps bs c k).length)),(76,vi ((m:Nat))),(15,vi ((k:Nat))),(16,vo 3 bs.length),(77,vi ((k:Nat))),(84,vd (BQ false (Cs (CA bs)))),(85,vi ((CA bs).length)),(86,vi ((j:Nat)))]∧H=[.box 26 [.d (Fk t ps),.d (EX t bs),.d (BQ t os)],.box 30 [.d (BQ false c.F),.d (.row false 6 c.R.length (AN (dIw false) c.R)),.d (.row false 3 c.E.length (AN dyP c.E))],.row 28 1 (hzL ps bs c (k)).length (((hzL ps bs c (k)).map dRw).map C.d),.row 43 3 bs.length (cVs (hzD bs c.F pv (j)))]) (n0:=(CA bs).length) ⟨0,Nat.zero_le _,rfl,rfl,rfl⟩ ?_
  rintro n Fr H ⟨j,hj,rfl,rfl,rfl⟩
  by_cases hlj:j<(CA bs).length
  case pos =>
   obtain ⟨i,hi⟩:∃ i,(CA bs)[j]?=some i:=⟨_,List.getElem?_eq_getElem hlj⟩
   obtain ⟨hil,hik⟩:=Xd hi
   obtain ⟨y,hy⟩:∃ y,bs[i]?=some y:=⟨_,List.getElem?_eq_getElem hil⟩
   have hyk:y.kind=2:=by rw [←OM hy];exact hik
   obtain ⟨hs2,hsa,_⟩:=A.sc hy
   have B:=Uz hd hy
   have hsv:=B.sv (by omega)
   have hlF:=ok.lF
   have hFi:=Hc (F:=c.F) (k:=i) (by omega)
   have tl:i<(hzD bs c.F pv (j)).length:=by rw [(A.D_in hup hP j (by omega)).len];exact hil
   have hnx:=TF (F:=c.F) (prev:=pv) hi
   by_cases hk0:k=0
   case pos =>
    have hd1:AcQ bs c.F pv i=Afp bs c.F i:=by rw [←hpv,hk0];rfl
    rw [hd1] at hnx
    unfold Afp at hnx
    rw [FX hy] at hnx
    have WH:=Fc y.vn y.ve (scA c.F i) hsv hs2.1 hs2.2
    obtain ⟨s,hs⟩:∃ s,scA c.F i=s:=⟨_,rfl⟩
    rw [hs] at hFi hs2 WH hnx
    cases hw:Bl y.vn y.ve s
    case true =>
     rw [hw] at WH hnx
     rw [if_pos rfl] at hnx
     have hnx:hzD bs c.F pv (j+1)=hzD bs c.F pv j:=hnx
     repeat' (with_reducible first|refine qq ?_|(refine Tx 24 ?_;refine Jo xLt ?_)|(refine Tx 25 ?_;refine Jo (by first|exact xIr Ab (Ak (Fo hi))|exact xIr Ab (Ak hFi)|exact xIo (i:=i) Ab) ?_;refine jD ?_;refine Ja ?_)|(refine Tx 26 ?_;refine Jm ?_;refine Jo xGt ?_;refine Ja ?_)|(refine AZ (id:=28) AK (by kernel_rfl) ?_;refine kF ?_;refine kD ?_;refine Km ?_;refine Ko (by first|exact xIr Ae (Bo hy)|exact xIo (i:=i) Ae) ?_;refine kF ?_;refine kA ?_;refine kF ?_;refine kD ?_;refine Km ?_;refine Ko (by first|exact xIr Ab (Ak (Fo hi))|exact xIr Ab (Ak hFi)|exact xIo (i:=i) Ab) ?_;refine kD ?_;refine Ko (xCl Tryz.func62 (WH)) ?_;refine Ko (by first|exact xNt|exact xNg) ?_;refine Ka ?_;refine Ke ?_)|(refine Tx 30 ?_;refine Jo xAd ?_;refine Jm ?_))
     rw [←hnx]
     refine ⟨_,_,BM _ 4 ?_ ?_ ?_,_,by omega,j+1,by omega,rfl,rfl,rfl⟩
     ·rfl
     ·exact mB rfl rfl
     ·exact ⟨AF rfl,AF rfl,Eb,Iz,trivial⟩
    rw [hw] at WH hnx
    rw [if_neg (by decide)] at hnx
    have um:=IC hs2.1 hs2.2
    have UN:=HG s hs2.1 hs2.2
    have UP:=Pg (pw (-s)) (um.more (by decide) (by decide))
    have stV:(hzD bs c.F pv j).set i (some (upQ (pw (-s))))=hzD bs c.F pv (j+1):=hnx.symm
    repeat' (with_reducible first|refine qq ?_|(refine Tx 24 ?_;refine Jo xLt ?_)|(refine Tx 25 ?_;refine Jo (by first|exact xIr Ab (Ak (Fo hi))|exact xIr Ab (Ak hFi)|exact xIo (i:=i) Ab) ?_;refine jD ?_;refine Ja ?_)|(refine Tx 26 ?_;refine Jm ?_;refine Jo xGt ?_;refine Ja ?_)|(refine AZ (id:=28) AK (by kernel_rfl) ?_;refine kF ?_;refine kD ?_;refine Km ?_;refine Ko (by first|exact xIr Ae (Bo hy)|exact xIo (i:=i) Ae) ?_;refine kF ?_;refine kA ?_;refine kF ?_;refine kD ?_;refine Km ?_;refine Ko (by first|exact xIr Ab (Ak (Fo hi))|exact xIr Ab (Ak hFi)|exact xIo (i:=i) Ab) ?_;refine kD ?_;refine Ko (xCl Tryz.func62 (WH)) ?_;refine Ko (by first|exact xNt|exact xNg) ?_;refine Ka ?_;refine Ke ?_)|(refine Tx 29 ?_;refine Jm ?_;refine Jm ?_;refine jF ?_;refine jD ?_;refine Jm ?_;refine Jo (by first|exact xIr Ab (Ak (Fo hi))|exact xIr Ab (Ak hFi)|exact xIo (i:=i) Ab) ?_;refine jD ?_;refine Jo (xCl Tryz.func64 (UN)) ?_;refine Jo (xCl Tryz.func63 (UP)) ?_;refine Jo (xIo (i:=i) Ac) ?_;refine Js (by first|exact WY rfl rfl rfl rfl Aa tl stV|exact xSk Aa) ?_)|(refine Tx 30 ?_;refine Jo xAd ?_;refine Jm ?_))
    refine ⟨_,_,BM _ 4 ?_ ?_ ?_,_,by omega,j+1,by omega,rfl,rfl,rfl⟩
    ·rfl
    ·exact mB rfl rfl
    ·exact ⟨AF rfl,AF rfl,Eb,Iz,trivial⟩
   obtain ⟨hEl,hEs,hEi⟩:=A.R_in hup (k - 1)
   have hpe:pv=some (hzR ps bs c (k - 1)):=by rw [←hpv];obtain ⟨k,rfl⟩:∃ k',k=k'+1:=⟨k - 1,by omega⟩;rfl
   have hLe:((hzL ps bs c k).map dRw)[k - 1]?=some (QE (hzR ps bs c (k - 1))):=by rw [List.getElem?_map,QH ps bs c (show k - 1<k by omega)];rfl
   rw [show AcQ bs c.F pv i=some (UU bs c.F (hzR ps bs c (k - 1)) i) by rw [hpe];rfl] at hnx
   have NX:=QI t false os c (hzR ps bs c (k - 1)) hEl (Pe hEs) i hy hyk B ok.lF hn hs2
   have stV:(hzD bs c.F pv j).set i (some (UU bs c.F (hzR ps bs c (k - 1)) i))=hzD bs c.F pv (j+1):=hnx.symm
   repeat' (with_reducible first|refine qq ?_|(refine Tx 24 ?_;refine Jo xLt ?_)|(refine Tx 25 ?_;refine Jo (by first|exact xIr Ab (Ak (Fo hi))|exact xIr Ab (Ak hFi)|exact xIo (i:=i) Ab) ?_;refine jD ?_;refine Ja ?_)|(refine Tx 26 ?_;refine Jm ?_;refine Jo xGt ?_;refine Ja ?_)|(refine Ba (id:=27) 12 AK (by kernel_rfl) ?_;dsimp only [List.take,List.drop];refine Km ?_;refine Km ?_;refine kA ?_;refine kA ?_;refine Km ?_;refine Km ?_;refine Ko xSb ?_;refine Ko (by first|exact Eg (i:=k - 1) rfl rfl rfl rfl (by omega) BJ (by omega) (by decide)|exact xIo (i:=i) BJ) ?_;refine Ko (by first|exact AaB rfl rfl rfl hLe An|exact xLd An) ?_;refine Km ?_;refine Ko (xCl Tryz.func61 (NX)) ?_;refine Ko (xIo (i:=i) Ac) ?_;refine Ke ?_;refine Js (by first|exact WY rfl rfl rfl rfl Aa tl stV|exact xSk Aa) ?_)|(refine Tx 30 ?_;refine Jo xAd ?_;refine Jm ?_))
   refine ⟨_,_,BM _ 4 ?_ ?_ ?_,_,by omega,j+1,by omega,rfl,rfl,rfl⟩
   ·rfl
   ·exact mB rfl rfl
   ·exact ⟨AF rfl,AF rfl,Eb,Iz,trivial⟩
  obtain rfl:j=(CA bs).length:=by omega
  clear hlj hj
  repeat' (with_reducible first|refine qq ?_|(refine Tx 24 ?_;refine Jo xLt ?_)|(refine Tx 31 ?_;refine Jm ?_;refine jN ?_;refine Jm ?_))
  rw [show (hzD bs c.F pv ((CA bs).length))=(hzS ps bs c pv (0)) from rfl]
  refine CF (F':=ofL [(2,vi ((m:Nat))),(3,vr 0),(4,vr 1),(11,vd (BQ false (Cs (Dc bs)))),(13,vd (BQ false (Cs (CA bs)))),(14,vo 2 ((hzL ps bs c k).length)),(76,vi ((m:Nat))),(15,vi ((k:Nat))),(16,vo 3 bs.length),(77,vi ((k:Nat))),(130,vd (BQ false (Cs (Dc bs)))),(131,vi ((Dc bs).length)),(132,vi ((0:Nat)))]) (H':=[.box 26 [.d (Fk t ps),.d (EX t bs),.d (BQ t os)],.box 30 [.d (BQ false c.F),.d (.row false 6 c.R.length (AN (dIw false) c.R)),.d (.row false 3 c.E.length (AN dyP c.E))],.row 28 1 (hzL ps bs c (k)).length (((hzL ps bs c (k)).map dRw).map C.d),.row 43 3 bs.length (cVs (hzS ps bs c pv (0)))]) (BM _ 4 ?_ ?_ ?_) ?_
  ·rfl
  ·rw [←hol];exact mB rfl rfl
  ·exact ⟨AF rfl,AF rfl,Eb,Iz,trivial⟩
  refine Bp (fun n Fr H=>∃ j:Nat,j≤(Dc bs).length∧n=(Dc bs).length - j∧Fr=ofL [(2,vi ((m:Nat))),(3,vr 0),(4,vr 1),(11,vd (BQ false (Cs (Dc bs)))),(13,vd (BQ false (Cs (CA bs)))),(14,vo 2 ((hzL ps bs c k).length)),(76,vi ((m:Nat))),(15,vi ((k:Nat))),(16,vo 3 bs.length),(77,vi ((k:Nat))),(130,vd (BQ false (Cs (Dc bs)))),(131,vi ((Dc bs).length)),(132,vi ((j:Nat)))]∧H=[.box 26 [.d (Fk t ps),.d (EX t bs),.d (BQ t os)],.box 30 [.d (BQ false c.F),.d (.row false 6 c.R.length (AN (dIw false) c.R)),.d (.row false 3 c.E.length (AN dyP c.E))],.row 28 1 (hzL ps bs c (k)).length (((hzL ps bs c (k)).map dRw).map C.d),.row 43 3 bs.length (cVs (hzS ps bs c pv (j)))]) (n0:=(Dc bs).length) ⟨0,Nat.zero_le _,rfl,rfl,rfl⟩ ?_
  rintro n Fr H ⟨j,hj,rfl,rfl,rfl⟩
  by_cases hlj:j<(Dc bs).length
  case pos =>
   obtain ⟨i,hi⟩:∃ i,(Dc bs)[j]?=some i:=⟨_,List.getElem?_eq_getElem hlj⟩
   have hil:=(Aap hi).1
   obtain ⟨y,hy⟩:∃ y,bs[i]?=some y:=⟨_,List.getElem?_eq_getElem hil⟩
   obtain ⟨hs2,hsa,_⟩:=A.sc hy
   have B:=Uz hd hy
   have GE:=A.S_in hup hP j (by omega)
   have hgl:(gV (hzS ps bs c pv (j))).length=bs.length:=by rw [WX,GE.len]
   have BD:=UK t false os c (gV (hzS ps bs c pv (j))) hgl (Pe GE.sm) i hy B ok.lF ok.lR ok.sR hn hpn hs2 hsa
   unfold AcY at BD
   rw [hgl] at BD
   have sb:=LH (ps:=ps) (F:=c.F) (y:=y) hs2.1 hs2.2 ok.sR (Pe GE.sm) (fun h6=>B.sv (by omega))
   have UP:=Pg _ (sb.more (by decide) (by decide))
   have tl:i<(hzS ps bs c pv (j)).length:=by rw [GE.len];exact hil
   have stV:(hzS ps bs c pv (j)).set i (some (upQ (Bd ps c.F c.R (gV (hzS ps bs c pv (j))) y (scA c.F i))))=(hzS ps bs c pv (j+1)):=by rw [TG hi];unfold hzN;rw [FX hy]
   generalize Bd ps c.F c.R (gV (hzS ps bs c pv (j))) y (scA c.F i)=b at *
   repeat' (with_reducible first|refine qq ?_|(refine Tx 32 ?_;refine Jo xLt ?_)|(refine Tx 33 ?_;refine Jo (by first|exact xIr Ab (Ak (Fo hi))|exact xIo (i:=i) Ab) ?_;refine jD ?_;refine Ja ?_)|(refine Tx 34 ?_;refine Jm ?_;refine Jm ?_;refine jA ?_;refine jA ?_;refine Jm ?_;refine Jm ?_;refine Jo (xCl Tryz.func65 BD (ha:=by with_unfolding_all first|((repeat' first|exact AC rfl rfl|refine Ay rfl rfl ?_ ?_|refine SA rfl rfl ?_|refine SE rfl rfl ?_|exact Db rfl (fun h=>by cases h)|exact Acz rfl rfl rfl) <;> fail)|fail)) ?_;refine Jo (xCl Tryz.func63 (UP)) ?_;refine Jo (xIo (i:=i) Ac) ?_;refine Js (by first|exact WY rfl rfl rfl rfl Aa tl stV|exact xSk Aa) ?_)|(refine Tx 35 ?_;refine Jo xAd ?_;refine Jm ?_))
   refine ⟨_,_,BM _ 4 ?_ ?_ ?_,_,by omega,j+1,by omega,rfl,rfl,rfl⟩
   ·rfl
   ·exact mB rfl rfl
   ·exact ⟨AF rfl,AF rfl,Eb,Iz,trivial⟩
  obtain rfl:j=(Dc bs).length:=by omega
  clear hlj hj
  have hrow:gV (hzS ps bs c pv (Dc bs).length)=hzR ps bs c k:=by rw [AcR,hpv];rfl
  have hsl:(hzS ps bs c pv (Dc bs).length).length=bs.length:=(A.S_in hup hP _ (Nat.le_refl _)).len
  obtain ⟨hEl,hEs,hEi⟩:=A.R_in hup k
  generalize hzS ps bs c pv (Dc bs).length=vv at *
  repeat' (with_reducible first|refine qq ?_|(refine Tx 32 ?_;refine Jo xLt ?_))
  refine CF (FU (ds:=(vv.map cDz).flatten) 16 3 rfl (by rw [←AgH];rfl)) ?_
  refine CF (Afe 16 rfl (Aff hsl)) ?_
  rw [hrow]
  clear hrow hsl
  have hfr:=A.not_far hEs hEi
  repeat' (with_reducible first|refine qq ?_|(refine Tx 36 ?_;refine Jm ?_;refine jN ?_;refine Jm ?_))
  refine CF (F':=ofL [(2,vi ((m:Nat))),(3,vr 0),(4,vr 1),(11,vd (BQ false (Cs (Dc bs)))),(13,vd (BQ false (Cs (CA bs)))),(14,vo 2 ((hzL ps bs c k).length)),(76,vi ((m:Nat))),(16,vd (dRw (hzR ps bs c k))),(77,vi ((k:Nat))),(146,vd (dRw (hzR ps bs c k))),(147,vi ((hzR ps bs c k).length)),(148,vi ((0:Nat)))]) (H':=[.box 26 [.d (Fk t ps),.d (EX t bs),.d (BQ t os)],.box 30 [.d (BQ false c.F),.d (.row false 6 c.R.length (AN (dIw false) c.R)),.d (.row false 3 c.E.length (AN dyP c.E))],.row 28 1 (hzL ps bs c (k)).length (((hzL ps bs c (k)).map dRw).map C.d)]) (BM _ 3 ?_ ?_ ?_) ?_
  ·rfl
  ·exact mB rfl rfl
  ·exact ⟨AF rfl,AF rfl,Eb,trivial⟩
  refine Bp (fun n Fr H=>∃ j:Nat,j≤(hzR ps bs c k).length∧n=(hzR ps bs c k).length - j∧Fr=ofL [(2,vi ((m:Nat))),(3,vr 0),(4,vr 1),(11,vd (BQ false (Cs (Dc bs)))),(13,vd (BQ false (Cs (CA bs)))),(14,vo 2 ((hzL ps bs c k).length)),(76,vi ((m:Nat))),(16,vd (dRw (hzR ps bs c k))),(77,vi ((k:Nat))),(146,vd (dRw (hzR ps bs c k))),(147,vi ((hzR ps bs c k).length)),(148,vi ((j:Nat)))]∧H=[.box 26 [.d (Fk t ps),.d (EX t bs),.d (BQ t os)],.box 30 [.d (BQ false c.F),.d (.row false 6 c.R.length (AN (dIw false) c.R)),.d (.row false 3 c.E.length (AN dyP c.E))],.row 28 1 (hzL ps bs c (k)).length (((hzL ps bs c (k)).map dRw).map C.d)]) (n0:=(hzR ps bs c k).length) ⟨0,Nat.zero_le _,rfl,rfl,rfl⟩ ?_
  rintro n Fr H ⟨j,hj,rfl,rfl,rfl⟩
  by_cases hlj:j<(hzR ps bs c k).length
  case pos =>
   obtain ⟨e,he⟩:∃ e,(hzR ps bs c k)[j]?=some e:=⟨_,List.getElem?_eq_getElem hlj⟩
   have hem:=List.mem_of_getElem? he
   have FR:=ZJ e ((hEs e hem).more (by decide) (by decide))
   rw [hfr e hem] at FR
   repeat' (with_reducible first|refine qq ?_|(refine Tx 37 ?_;refine Jo xLt ?_)|(refine Tx 38 ?_;refine Jo (xIr Ac (MV he)) ?_;refine jA ?_;refine Jn (xAl Aj) ?_;refine Js (xSk Aa) ?_)|(refine Tx 39 ?_;refine jA ?_;refine Jo (xCl Tryz.func66 (FR)) ?_)|(refine Tx 41 ?_;refine Jo xAd ?_;refine Jm ?_))
   refine ⟨_,_,BM _ 3 ?_ ?_ ?_,_,by omega,j+1,by omega,rfl,rfl,rfl⟩
   ·rfl
   ·exact mB rfl rfl
   ·exact ⟨AF rfl,AF rfl,Eb,trivial⟩
  obtain rfl:j=(hzR ps bs c k).length:=by omega
  clear hlj hj
  have hap:((hzL ps bs c (k)).map dRw).map C.d++[C.d (dRw (hzR ps bs c k))]=((hzL ps bs c (k+1)).map dRw).map C.d:=by rw [TH,List.map_append,List.map_append];rfl
  have hap2:(hzL ps bs c (k)).length+1=(hzL ps bs c (k+1)).length:=by rw [TH,List.length_append];rfl
  repeat' (with_reducible first|refine qq ?_|(refine Tx 37 ?_;refine Jo xLt ?_)|(refine Tx 42 ?_;refine Jm ?_;refine Jm ?_;refine Jn (by exact Ew rfl BJ Mh rfl rfl (by decide) (by decide)) ?_;refine Jt (by exact Aac rfl rfl rfl rfl rfl rfl BJ Mh (by omega) (by decide) (by decide) rfl hap hap2) ?_;refine Ja ?_)|(refine Tx 43 ?_;refine Jo xAd ?_;refine Jm ?_))
  refine ⟨_,_,BM _ 3 ?_ ?_ ?_,_,by omega,k+1,by omega,rfl,rfl,rfl⟩
  ·rfl
  ·exact mB rfl rfl
  ·exact ⟨AF rfl,AF rfl,Eb,trivial⟩
 obtain rfl:k=m:=by omega
 clear hlt hk
 obtain ⟨hEl,hEs,hEi⟩:=A.R_in hup (k - 1)
 have hLe:((hzL ps bs c k).map dRw)[k - 1]?=some (QE (hzR ps bs c (k - 1))):=by rw [List.getElem?_map,QH ps bs c (show k - 1<k by omega)];rfl
 generalize hzR ps bs c (k - 1)=E at *
 repeat' (with_reducible first|refine qq ?_|(refine Tx 20 ?_;refine Jo xLt ?_)|(refine Tx 44 ?_;refine Ja ?_)|(refine Tx 45 ?_;refine Jm ?_;refine Jm ?_;refine Jo xSb ?_;refine Jo (by exact Eg (i:=k - 1) rfl rfl rfl rfl (by omega) BJ (by omega) (by decide)) ?_;refine Jo (by first|exact AaB rfl rfl rfl hLe An|exact xLd An) ?_;refine Ja ?_)|(refine Tx 46 ?_;refine Jm ?_;refine jN ?_;refine Jm ?_))
 refine CF (F':=ofL [(3,vr 0),(4,vr 1),(14,vo 2 ((hzL ps bs c k).length)),(23,vd (.val (.bool true))),(24,vd (QE E)),(166,vd (BQ false (Cs (CA bs)))),(167,vi ((CA bs).length)),(168,vi ((0:Nat)))]) (H':=[.box 26 [.d (Fk t ps),.d (EX t bs),.d (BQ t os)],.box 30 [.d (BQ false c.F),.d (.row false 6 c.R.length (AN (dIw false) c.R)),.d (.row false 3 c.E.length (AN dyP c.E))],.row 28 1 (hzL ps bs c (k)).length (((hzL ps bs c (k)).map dRw).map C.d)]) (BM _ 3 ?_ ?_ ?_) ?_
 ·rfl
 ·rw [←hnl];exact mB rfl rfl
 ·exact ⟨AF rfl,AF rfl,Eb,trivial⟩
 refine Bp (fun n Fr H=>∃ (j:Nat) (b:Bool),j≤(CA bs).length∧n=(CA bs).length - j∧b=((CA bs).take j).all (Adn bs c.F E)∧Fr=ofL [(3,vr 0),(4,vr 1),(14,vo 2 ((hzL ps bs c k).length)),(23,vd (.val (.bool b))),(24,vd (QE E)),(166,vd (BQ false (Cs (CA bs)))),(167,vi ((CA bs).length)),(168,vi ((j:Nat)))]∧H=[.box 26 [.d (Fk t ps),.d (EX t bs),.d (BQ t os)],.box 30 [.d (BQ false c.F),.d (.row false 6 c.R.length (AN (dIw false) c.R)),.d (.row false 3 c.E.length (AN dyP c.E))],.row 28 1 (hzL ps bs c (k)).length (((hzL ps bs c (k)).map dRw).map C.d)]) (n0:=(CA bs).length) ⟨0,true,Nat.zero_le _,rfl,rfl,rfl,rfl⟩ ?_
 rintro n Fr H ⟨j,b,hj,rfl,hb,rfl,rfl⟩
 by_cases hlj:j<(CA bs).length
 case pos =>
  obtain ⟨i,hi⟩:∃ i,(CA bs)[j]?=some i:=⟨_,List.getElem?_eq_getElem hlj⟩
  obtain ⟨hil,hik⟩:=Xd hi
  obtain ⟨y,hy⟩:∃ y,bs[i]?=some y:=⟨_,List.getElem?_eq_getElem hil⟩
  have hyk:y.kind=2:=by rw [←OM hy];exact hik
  obtain ⟨hs2,hsa,_⟩:=A.sc hy
  have B:=Uz hd hy
  have hst:((CA bs).take (j+1)).all (Adn bs c.F E)=(b && Adn bs c.F E i):=by rw [List.take_add_one,hi,Option.toList_some,List.all_append,←hb];simp
  cases b
  case false =>
   rw [Bool.false_and] at hst
   repeat' (with_reducible first|refine qq ?_|(refine Tx 47 ?_;refine Jo xLt ?_)|(refine Tx 48 ?_;refine Jo (xIr Ab (Ak (Fo hi))) ?_;refine jD ?_;refine Ja ?_)|(refine Ba (id:=49) 14 AK (by kernel_rfl) ?_;dsimp only [List.take,List.drop];refine Km ?_;refine Km ?_;(first|iterate 4 refine Kd ?_|(refine Ky (xLa Bi) ?_;refine Ky (xLa CC) ?_;refine Ky xM1 ?_;refine Ky xM1 ?_));refine Kd ?_;(first|iterate 2 refine Kd ?_|(refine Ky xM1 ?_;refine Ky xM1 ?_));refine Kd ?_;(first|refine Kd ?_|refine Ky (xLa Aa) ?_);refine Kd ?_;(first|refine Kd ?_|refine Ky xLe ?_);refine Ko xPk ?_;refine Ke ?_;refine Ja ?_)|(refine Tx 50 ?_;refine Jo xAd ?_;refine Jm ?_))
   refine ⟨_,_,BM _ 3 ?_ ?_ ?_,_,by omega,j+1,_,by omega,rfl,hst.symm,rfl,rfl⟩
   ·rfl
   ·exact mB rfl rfl
   ·exact ⟨AF rfl,AF rfl,Eb,trivial⟩
  rw [Bool.true_and] at hst
  have NX:=QI t false os c E hEl (Pe hEs) i hy hyk B ok.lF hn hs2
  have sx:=(A.del_in hup (prev:=some E) (fun E2 he2=>by cases he2;exact ⟨hEs,hEi⟩) hi rfl).1
  have hEe:=RQ (E:=E) (k:=i) (by omega)
  have se:=Cz hEs i
  unfold Adn at hst
  generalize UU bs c.F E i=x at *
  generalize E[i]?.getD (0,0)=e at *
  have CM:=CY x.1 x.2 e.1 e.2 sx.ok se.ok (Nat.le_trans (sx.lenN 128 (by decide)) (by decide)) (Nat.le_trans (se.lenN 128 (by decide)) (by decide))
  have hst:((CA bs).take (j+1)).all (Adn bs c.F E)=decide (Cl x.1 x.2 e.1 e.2≤0):=hst
  generalize Cl x.1 x.2 e.1 e.2=q at *
  repeat' (with_reducible first|refine qq ?_|(refine Tx 47 ?_;refine Jo xLt ?_)|(refine Tx 48 ?_;refine Jo (by first|exact xIr Ab (Ak (Fo hi))|exact xIr Ab (hEe)) ?_;refine jD ?_;refine Ja ?_)|(refine Ba (id:=49) 14 AK (by kernel_rfl) ?_;dsimp only [List.take,List.drop];refine Km ?_;refine Km ?_;(first|iterate 11 refine Kd ?_|(refine Ky (xLa Bi) ?_;refine Ky (xLa CC) ?_;refine Ky xM1 ?_;refine Ky xM1 ?_;refine Ky (xCl Tryz.func61 (NX)) ?_;refine Ky xM1 ?_;refine Ky xM1 ?_;refine Ky (xIr Ac (hEe)) ?_;refine Ky (xLa Aa) ?_;refine Ky (xCl Tryz.func15 (CM)) ?_;refine Ky xLe ?_));refine Ko xPk ?_;refine Ke ?_;refine Ja ?_)|(refine Tx 50 ?_;refine Jo xAd ?_;refine Jm ?_))
  refine ⟨_,_,BM _ 3 ?_ ?_ ?_,_,by omega,j+1,_,by omega,rfl,hst.symm,rfl,rfl⟩
  ·rfl
  ·exact mB rfl rfl
  ·exact ⟨AF rfl,AF rfl,Eb,trivial⟩
 obtain rfl:j=(CA bs).length:=by omega
 rw [List.take_length] at hb
 have hb:b=hzC bs c.F E:=hb
 rw [←hb]
 repeat' (with_reducible first|refine qq ?_|(refine Tx 47 ?_;refine Jo xLt ?_)|(refine Tx 51 ?_;refine Jm ?_;refine Jm ?_;refine Ja ?_;refine Ja ?_;refine Ja ?_))
 exact Ap rfl (.cons_ (Agq rfl rfl rfl) (.cons_ (BL rfl rfl) (.cons_ (Qh rfl rfl) .nil_)))
theorem MO (t:Bool) {ps:List Prt} {bs:List Bk} {os:List Int} (hl:Lb ps bs os) (F:List Int) (qs:List (Rv × Rv)) (rs:List Rv) (hwq:∀ q∈qs,RvL q.1∧RvL q.2) (hwr:∀ r∈rs,RvL r) (hFl:F.length≤1000000) (hQl:qs.length≤1000000) (hRl:rs.length≤1000000) (h0:ckE ps bs os F qs rs=0) (A:Dw ps bs os (MW F qs rs)) (hup:∀ p∈(MW F qs rs).E,gv (upQ p)=gv p) (m:Nat) (m1:1≤m) (m2:m≤128):CV Tryz.prog Ax 17 [aDg t ps bs os,.agg (dCr false F qs rs),aI (m:Int)] [aB true,aE 0]:=by
 refine cvz Tryz.func17 Tryz.ntmps17 ?_
 have EC:=Ha t hl F qs rs hwq hwr hFl hQl hRl h0 A hup m m1 m2
 obtain ⟨hd,ok,hdc,_,_⟩:=XH hwq hwr h0
 rw [hdc] at EC
 rw [hdc]
 clear hdc
 generalize MW F qs rs=c at *
 have hn:=hl.l2
 have hpn:=hl.l1
 have hLl:=Pd ps bs c m
 have hLa:∀ k l,(hzL ps bs c m)[k]?=some l→l=hzR ps bs c k:=fun k l h=>by have:=(List.getElem?_eq_some_iff.1 h).1;rw [QH ps bs c (by omega)] at h;exact (Option.some.inj h).symm
 generalize hzL ps bs c m=L at *
 generalize hzC bs c.F (hzR ps bs c (m - 1))=cl at *
 repeat' (with_reducible first|refine qq ?_|(refine Tx 0 ?_;refine Jn xBo ?_;refine Jn xBo ?_;refine Ja ?_;refine Ja ?_)|(refine Tx 1 ?_;refine jA ?_;refine jA ?_;refine Jm ?_;refine Jo (xCl Tryz.func16 (EC)) ?_;refine Jo xMt ?_;refine Jo xEx ?_;refine Jo xEx ?_;refine Jo xEx ?_;refine Ja ?_;refine Ja ?_;refine Ja ?_)|(refine Tx 2 ?_;refine Jm ?_;refine Jo (xNE AQ) ?_)|(refine Tx 4 ?_;refine Jm ?_;refine jN ?_;refine Jm ?_))
 refine CF (F':=ofL [(3,vr 0),(4,vr 1),(25,vd (GU L)),(26,vi L.length),(27,vi ((0:Nat)))]) (H':=[.box 26 [.d (Fk t ps),.d (EX t bs),.d (BQ t os)],.box 30 [.d (BQ false c.F),.d (.row false 6 c.R.length (AN (dIw false) c.R)),.d (.row false 3 c.E.length (AN dyP c.E))]]) (BM _ 2 ?_ ?_ ?_) ?_
 ·rfl
 ·exact mB rfl rfl
 ·exact ⟨AF rfl,AF rfl,trivial⟩
 refine Bp (fun n Fr H=>∃ k:Nat,k≤L.length∧n=L.length - k∧Fr=ofL [(3,vr 0),(4,vr 1),(25,vd (GU L)),(26,vi L.length),(27,vi ((k:Nat)))]∧H=[.box 26 [.d (Fk t ps),.d (EX t bs),.d (BQ t os)],.box 30 [.d (BQ false c.F),.d (.row false 6 c.R.length (AN (dIw false) c.R)),.d (.row false 3 c.E.length (AN dyP c.E))]]) (n0:=L.length) ⟨0,Nat.zero_le _,rfl,rfl,rfl⟩ ?_
 rintro n Fr H ⟨k,hk,rfl,rfl,rfl⟩
 by_cases hlt:k<L.length
 case pos =>
  obtain ⟨E,hE⟩:∃ E,L[k]?=some E:=⟨_,List.getElem?_eq_getElem hlt⟩
  obtain ⟨hEl,hEs,hEi⟩:=A.R_in hup k
  rw [←hLa k E hE] at hEl hEs hEi
  repeat' (with_reducible first|refine qq ?_|(refine Tx 5 ?_;refine Jo xLt ?_)|(refine Tx 6 ?_;refine Jo (xIr BJ (Nt (f:=dRw) hE)) ?_;refine jD ?_;refine Ja ?_)|(refine Tx 7 ?_;refine jF ?_;refine jD ?_;refine jN ?_;refine Jm ?_))
  refine CF (F':=ofL [(3,vr 0),(4,vr 1),(12,vd (QE E)),(25,vd (GU L)),(26,vi L.length),(27,vi ((k:Nat))),(33,vi bs.length),(34,vi ((0:Nat)))]) (H':=[.box 26 [.d (Fk t ps),.d (EX t bs),.d (BQ t os)],.box 30 [.d (BQ false c.F),.d (.row false 6 c.R.length (AN (dIw false) c.R)),.d (.row false 3 c.E.length (AN dyP c.E))]]) (BM _ 2 ?_ ?_ ?_) ?_
  ·rfl
  ·exact mB rfl rfl
  ·exact ⟨AF rfl,AF rfl,trivial⟩
  refine Bp (fun n Fr H=>∃ j:Nat,j≤bs.length∧n=bs.length - j∧Fr=ofL [(3,vr 0),(4,vr 1),(12,vd (QE E)),(25,vd (GU L)),(26,vi L.length),(27,vi ((k:Nat))),(33,vi bs.length),(34,vi ((j:Nat)))]∧H=[.box 26 [.d (Fk t ps),.d (EX t bs),.d (BQ t os)],.box 30 [.d (BQ false c.F),.d (.row false 6 c.R.length (AN (dIw false) c.R)),.d (.row false 3 c.E.length (AN dyP c.E))]]) (n0:=bs.length) ⟨0,Nat.zero_le _,rfl,rfl,rfl⟩ ?_
  rintro n Fr H ⟨j,hj,rfl,rfl,rfl⟩
  by_cases hlj:j<bs.length
  case pos =>
   obtain ⟨y,hy⟩:∃ y,bs[j]?=some y:=⟨_,List.getElem?_eq_getElem hlj⟩
   obtain ⟨hs2,_,_⟩:=A.sc hy
   have FT:=XR t false os c E hEl (Pe hEs) j hy (Uz hd hy) ok.lF ok.lR ok.sR hn hs2
   rw [A.fits_in hEs hEi hy] at FT
   repeat' (with_reducible first|refine qq ?_|(refine Tx 8 ?_;refine Jo xLt ?_)|(refine Tx 9 ?_;refine Jm ?_;refine Ja ?_)|(refine Tx 10 ?_;refine jA ?_;refine jA ?_;refine Jm ?_;refine Jm ?_;refine Jo (xCl Tryz.func67 (FT)) ?_;refine Jo (by first|exact xNt|exact xNg) ?_)|(refine Tx 12 ?_;refine Jo xAd ?_;refine Jm ?_))
   refine ⟨_,_,BM _ 2 ?_ ?_ ?_,_,by omega,j+1,by omega,rfl,rfl,rfl⟩
   ·rfl
   ·exact mB rfl rfl
   ·exact ⟨AF rfl,AF rfl,trivial⟩
  obtain rfl:j=bs.length:=by omega
  clear hlj hj
  repeat' (with_reducible first|refine qq ?_|(refine Tx 8 ?_;refine Jo xLt ?_)|(refine Tx 13 ?_;refine Jo xAd ?_;refine Jm ?_))
  refine ⟨_,_,BM _ 2 ?_ ?_ ?_,_,by omega,k+1,by omega,rfl,rfl,rfl⟩
  ·rfl
  ·exact mB rfl rfl
  ·exact ⟨AF rfl,AF rfl,trivial⟩
 obtain rfl:k=L.length:=by omega
 repeat' (with_reducible first|refine qq ?_|(refine Tx 5 ?_;refine Jo xLt ?_)|(refine Tx 14 ?_;refine Ja ?_;refine Ja ?_))
 exact Ap rfl (.cons_ (BL rfl rfl) (.cons_ (Qh rfl rfl) .nil_))
theorem UM  : CV Tryz.prog Ax 23 [] [aB true]:=by
 refine cvz Tryz.func23 Tryz.ntmps23 ?_
 have FC:=Xz
 have XC:=UI
 have EC:CV Tryz.prog Ax 16 [aDg false flP flB flO,.agg (dCt false Pf),aI 3] [.one (GU (hzL flP flB Pf 3)),aB (hzC flB Pf.F (hzR flP flB Pf (3 - 1))),aE 0]:=by have:=Ha false AaA Aaz ZH ZI AcV AcW (by decide) (by decide) (by decide) Afd (by rw [UJ];exact XP) (by rw [UJ];exact AcX) 3 (by decide) (by decide);rw [UJ,Afc] at this;exact this
 have WC:CV Tryz.prog Ax 17 [aDg false flP flB flO,.agg (dCt false Pf),aI 3] [aB true,aE 0]:=by have:=MO false AaA Aaz ZH ZI AcV AcW (by decide) (by decide) (by decide) Afd (by rw [UJ];exact XP) (by rw [UJ];exact AcX) 3 (by decide) (by decide);rw [Afc] at this;exact this
 rw [show hzC flB Pf.F (hzR flP flB Pf (3 - 1))=false by decide +kernel] at EC
 have hL:=Pd flP flB Pf 3
 have hE:(hzL flP flB Pf 3)[2]?=some (hzR flP flB Pf 2):=QH flP flB Pf (by decide)
 have h4:(hzR flP flB Pf 2).length=4:=(XP.R_in AcX 2).1
 have h1:(hzR flP flB Pf 2)[1]?=some ((7,6):Pq):=by decide +kernel
 generalize hzL flP flB Pf 3=L at *
 generalize hzR flP flB Pf 2=E at *
 have OF:=Za (G:=Ax) 7 (by decide) (by decide)
 have SH:=Qk (G:=Ax) false 7 0 (-6) ⟨by decide,fun h=>absurd rfl h⟩ (by decide +kernel) (by decide)
 rw [show Ai 7 0 (-6)=((7,6):Pq) by decide +kernel] at SH
 have SM:=Tv false false (7,6) (7,6) (by decide +kernel) (by decide +kernel)
 rw [decide_eq_true rfl] at SM
 repeat' (with_reducible first|refine qq ?_|(refine Tx 0 ?_;refine Ja ?_)|(refine Tx 1 ?_;refine Jo (xCl Tryz.func74 (FC)) ?_;refine Jo (xCl Tryz.func75 (XC)) ?_;refine Jo (xCl Tryz.func16 (EC)) ?_;refine Jo xMt ?_;refine Jo xEx ?_;refine Jo xEx ?_;refine Jo xEx ?_;refine Ja ?_;refine Ja ?_;refine Ja ?_)|(refine Tx 2 ?_;refine Jo (xCl Tryz.func74 (FC)) ?_;refine Jo (xCl Tryz.func75 (XC)) ?_;refine Jo (xCl Tryz.func17 (WC)) ?_;refine Jo xMt ?_;refine Jo xEx ?_;refine Jo xEx ?_;refine Ja ?_;refine Ja ?_)|(refine AZ (id:=3) AK (by kernel_rfl) ?_;refine Km ?_;refine Ko (by first|exact Cf rfl AQ rfl (Ik rfl)|exact Cf rfl AQ rfl (Ik (by first|rfl|omega))|exact Cf rfl AQ rfl (Mj (by first|assumption|omega))|exact Cf rfl AQ rfl rfl) ?_;refine Km ?_;(first|iterate 2 refine Kd ?_|(refine Ky xM1 ?_;refine Ky (by first|exact Cf rfl AQ rfl (Ik rfl)|exact Cf rfl AQ rfl (Ik (by first|rfl|omega))|exact Cf rfl AQ rfl (Mj (by first|assumption|omega))|exact Cf rfl AQ rfl rfl) ?_));refine Ko xPk ?_;refine Km ?_;(first|refine Kd ?_|refine Ky xM1 ?_);refine Ko xPk ?_;refine Km ?_;(first|iterate 2 refine Kd ?_|(refine Ky xM1 ?_;refine Ky (by first|exact xNt|exact xNg) ?_));refine Ko xPk ?_;refine Km ?_;(first|iterate 3 refine Kd ?_|(refine Ky xM1 ?_;refine Ky (xLn BJ) ?_;refine Ky xEq ?_));refine Ko xPk ?_;refine Km ?_;(first|iterate 5 refine Kd ?_|(refine Ky xM1 ?_;refine Ky (by exact GB (i:=2) rfl rfl rfl rfl BJ (by omega) (by decide) (Nt (f:=dRw) hE)) ?_;refine Ky (xLd An) ?_;refine Ky (xLn Ac) ?_;refine Ky xEq ?_));refine Ko xPk ?_;refine Km ?_;(first|iterate 8 refine Kd ?_|(refine Ky xM1 ?_;refine Ky (by exact GB (i:=2) rfl rfl rfl rfl BJ (by omega) (by decide) (Nt (f:=dRw) hE)) ?_;refine Ky (xLd An) ?_;refine Ky (by exact GB (i:=1) rfl rfl rfl rfl Ac (by omega) (by decide) (MV h1)) ?_;refine Ky (xLa Aa) ?_;refine Ky (xCl Tryz.func39 (OF.cv)) ?_;refine Ky (xCl Tryz.func38 (SH.cv)) ?_;refine Ky (xCl Tryz.func27 (SM)) ?_));refine Ko xPk ?_;refine Ka ?_;refine Ke ?_))
 exact Ap rfl (.cons_ (BL rfl (rfl)) .nil_)
end Go.Proofs.YtmdfjbpggbhgnaaGreatDoor
