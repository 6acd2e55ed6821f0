/- What the proofs of this claim share, part 11. No conditions. -/
import Derived.Test.YtmdfjbpggbhgnaaGreatDoorZt10
import Derived.Test.YtmdfjbpggbhgnaaGreatDoorZt9
set_option maxRecDepth 100000
set_option maxHeartbeats 8000000
set_option linter.unusedVariables false
set_option linter.unusedSimpArgs false
set_option linter.unusedSectionVars false
namespace Go.Proofs.YtmdfjbpggbhgnaaGreatDoor
open Go.RowKit
theorem Wn {n e:Int} (h:EW n e):(Ad (Ai n 0 e).1.natAbs).length≤50000:=by
 obtain ⟨h1,h2,h3,h4⟩:=h
 unfold Ai
 split
 ·exact Nat.le_trans (AX (Er _ _)) (Nat.le_trans (Bb (k:=1) (by omega)) (by decide))
 ·refine Nat.le_trans (AX (Er _ _)) ?_
  rw [GK]
  refine Nat.le_trans (Bz _ _) ?_
  have:=Bb (n:=n.natAbs) (k:=1) (by omega)
  omega
theorem Wo (d:Dg) (b:Bk) (w:World) (h:¬ (0≤AU b.kind∧((b.args.length:Nat):Int)=AU b.kind)) (hl:b.args.length≤1000000) :
  Calls Tryz.prog 95 #[d.val,b.val] w fun e w'=>e=.returned (GH (BC d.ps.length d.bs.length b))∧Below w.heap.size w w':=by
 obtain ⟨A1,ps,c1,A2,bs,c2,A3,os,c3⟩:=d
 obtain ⟨kind,A,args,cap,vn,ve,un,ue⟩:=b
 dsimp only at h hl
 simp only [Dg.val,Bk.val]
 have b0:Below w.heap.size w ((w.alloc (.cells #[.slice A1 ps.length c1,.slice A2 bs.length c2,.slice A3 os.length c3] 26)).alloc (.cells #[.int .i64 kind,.slice A args.length cap,.int .i64 vn,.int .i64 ve,.int .i64 un,.int .i64 ue] 63)):=Aq (al_ _ _) _
 obtain ⟨K,hK⟩:∃ K,AU kind=K:=⟨_,rfl⟩
 have HKK:=Lib.hid hK
 by_cases hk0:K<0
 ·have HE:=Lib.hid (be1 (np:=ps.length) (nb:=bs.length) (b:=⟨kind,A,args,cap,vn,ve,un,ue⟩) (by show AU kind<0;omega))
  clear h hK
  go_enter Tryz.func95,Tryz.ntmps95
  go_wp2_with (go_at_call 201;refine (Ea _ _).mono ?_;rintro e w1 ⟨rfl,rfl⟩;rw [HKK.out])
  go_ret
  exact ⟨Gr HE.out (by decide),b0⟩
 ·have HE:=Lib.hid (be2 (np:=ps.length) (nb:=bs.length) (b:=⟨kind,A,args,cap,vn,ve,un,ue⟩) (by show ¬ AU kind<0;omega) (fun h2=>h ⟨by omega,h2⟩))
  have hne:(((args.length:Nat):Int) != K)=true:=by
   rw [bne_iff_ne]
   intro h2
   exact h ⟨by omega,by omega⟩
  have hk1:0≤K:=by omega
  clear h hK hk0
  go_enter Tryz.func95,Tryz.ntmps95
  go_wp2_with (go_at_call 201;refine (Ea _ _).mono ?_;rintro e w1 ⟨rfl,rfl⟩;rw [HKK.out])
  go_ret
  exact ⟨Gr HE.out (by decide),b0⟩
theorem AbE (A1:Option Addr) (ps:List Prt) (c1:Nat) (A2:Option Addr) (bs:List Bk) (c2:Nat) (A3:Option Addr) (os:List Int) (c3:Nat) (A:Option Addr) (args:List Int) (cap:Nat) (vn ve un ue:Int) (m:Nat) (w:World)
  (hk0:¬ AU 0<0) (hk1:((args.length:Nat):Int)=AU 0) (hl:args.length≤1000000) (hl1:ps.length≤1000000) (hl2:bs.length≤1000000) (hm:m≤w.heap.size) (ha:Am w m A (CO args)) (ht:Ax w) :
  Calls Tryz.prog 95 #[.agg #[.slice A1 ps.length c1,.slice A2 bs.length c2,.slice A3 os.length c3],.agg #[.int .i64 0,.slice A args.length cap,.int .i64 vn,.int .i64 ve,.int .i64 un,.int .i64 ue]] w fun e w'=>e=.returned (GH (BC ps.length bs.length ⟨0,A,args,cap,vn,ve,un,ue⟩))∧Below w.heap.size w w':=by
 have b0:Below w.heap.size w ((w.alloc (.cells #[.slice A1 ps.length c1,.slice A2 bs.length c2,.slice A3 os.length c3] 26)).alloc (.cells #[.int .i64 0,.slice A args.length cap,.int .i64 vn,.int .i64 ve,.int .i64 un,.int .i64 ue] 63)):=Aq (al_ _ _) _
 have r0:=(Bh.new_ w [.slice A1 ps.length c1,.slice A2 bs.length c2,.slice A3 os.length c3] 26).call (al_ _ (.cells #[.int .i64 0,.slice A args.length cap,.int .i64 vn,.int .i64 ve,.int .i64 un,.int .i64 ue] 63))
 have r1:=Bh.new_ (w.alloc (.cells #[.slice A1 ps.length c1,.slice A2 bs.length c2,.slice A3 os.length c3] 26)) [.int .i64 0,.slice A args.length cap,.int .i64 vn,.int .i64 ve,.int .i64 un,.int .i64 ue] 63
 rw [show (w.alloc (.cells #[.slice A1 ps.length c1,.slice A2 bs.length c2,.slice A3 os.length c3] 26)).heap.size=w.heap.size+1 by simp] at r1
 have HT:=Lib.hid ht
 have HA:=Lib.hid ha
 have HK0:=Lib.hid hk0
 have HK1:=Lib.hid hk1
 obtain ⟨K,hK⟩:∃ K,AU 0=K:=⟨_,rfl⟩
 have HKK:=Lib.hid hK
 have hne:(((args.length:Nat):Int) != K)=false:=by rw [hk1,hK];simp
 have hkk:0≤K:=by omega
 clear ht ha hk0 hk1 hK
 go_enter Tryz.func95,Tryz.ntmps95
 have HM:Hid (Dv ps.length bs.length 0=ps.length):=Lib.hid (rfl)
 have HV:Hid (La 0=false):=Lib.hid (by decide)
 have HU:Hid (EJ 0=false):=Lib.hid (by decide)
 go_wp2_with (go_at_call 201;refine (Ea _ _).mono ?_;rintro e w1 ⟨rfl,rfl⟩;rw [HKK.out])
 obtain ⟨W,hW⟩:∃ W,W=((w.alloc (.cells #[.slice A1 ps.length c1,.slice A2 bs.length c2,.slice A3 os.length c3] 26)).alloc (.cells #[.int .i64 0,.slice A args.length cap,.int .i64 vn,.int .i64 ve,.int .i64 un,.int .i64 ue] 63)):=⟨_,rfl⟩
 rw [←hW]
 rw [←hW] at r0 r1 b0
 have hWs:W.heap.size=w.heap.size+2:=by rw [hW];simp
 clear hW
 have HTW:=Lib.hid (HT.out.below b0 HT.out.1)
 have q0:W.cell? ⟨w.heap.size+1,0,none⟩=some (.int .i64 0):=r1.cell 0
 have q2:W.cell? ⟨w.heap.size+1,2,none⟩=some (.int .i64 vn):=r1.cell 2
 have q3:W.cell? ⟨w.heap.size+1,3,none⟩=some (.int .i64 ve):=r1.cell 3
 have HB0:=Lib.hid b0
 have R1:=Lib.hid r1
 have HA2:=Lib.hid (HA.out.below b0 hm)
 have hbs1:(W.heap.size:Int)=w.heap.size+2:=by omega
 clear r0 r1 b0
 go_loopw [36] (fun i wr=>Fz args ps.length W i wr) (fun i _=>args.length - (intOf i).toNat)
 case atStart=>exact ⟨0,Nat.zero_le _,rfl,rfl,rfl⟩
 case round =>
  as_aux_lemma =>
   obtain ⟨t,ht,rfl,hf,rfl⟩:=hrel
   have HF:=Lib.hid hf
   clear hf
   by_cases hlt:t<args.length
   ·obtain ⟨ab,ao,z,rfl,hab,hab2,hz,hzc⟩:=HA2.out.int_ hlt
    have HZ:=Lib.hid hz
    clear hz
    by_cases h0:z<0
    ·have hE:=Lib.hid (be3 (np:=ps.length) (nb:=bs.length) (b:=⟨0,some ⟨ab,ao,none⟩,args,cap,vn,ve,un,ue⟩) (Int.not_lt.2 HK0.out) HK1.out HM.out (CN HZ.out (by omega) HF.out))
     go_wp2_with fail
     go_ret
     exact ⟨Gr (k:=10) hE.out (by decide),HB0.out⟩
    ·have h1:0≤z:=by omega
     clear h0
     by_cases h2:z<(ps.length:Int)
     ·have HZ2:=Lib.hid (Dh HZ.out ⟨h1,h2⟩ HF.out)
      go_wp2_with fail
      all_goals try (exfalso;omega)
      exact ⟨⟨t+1,by omega,by go_num,HZ2.out,rfl⟩,by simp [intOf];omega⟩
     ·have hE:=Lib.hid (be3 (np:=ps.length) (nb:=bs.length) (b:=⟨0,some ⟨ab,ao,none⟩,args,cap,vn,ve,un,ue⟩) (Int.not_lt.2 HK0.out) HK1.out HM.out (CN HZ.out (by omega) HF.out))
      have h3:(ps.length:Int)≤z:=by omega
      clear h2
      go_wp2_with fail
      all_goals try (exfalso;omega)
      go_ret
      exact ⟨Gr (k:=10) hE.out (by decide),HB0.out⟩
   ·have P1:=Lib.hid (DH (k:=t) (by rw [List.length_map];omega) HF.out)
    clear HF
    have hE4:=fun h=>be4 (np:=ps.length) (nb:=bs.length) (b:=⟨0,A,args,cap,vn,ve,un,ue⟩) (Int.not_lt.2 HK0.out) HK1.out HM.out P1.out HV.out h
    have hE5:=fun h4 h=>be5 (np:=ps.length) (nb:=bs.length) (b:=⟨0,A,args,cap,vn,ve,un,ue⟩) (Int.not_lt.2 HK0.out) HK1.out HM.out P1.out HV.out h4 HU.out h
    have hE6:=fun h4 h5 h=>be6 (np:=ps.length) (nb:=bs.length) (b:=⟨0,A,args,cap,vn,ve,un,ue⟩) (Int.not_lt.2 HK0.out) HK1.out HM.out P1.out HV.out h4 HU.out h5 h
    have hE7:=fun h4 h5 h=>be7 (np:=ps.length) (nb:=bs.length) (b:=⟨0,A,args,cap,vn,ve,un,ue⟩) (Int.not_lt.2 HK0.out) HK1.out HM.out P1.out HV.out h4 HU.out h5 h
    dsimp only at hE4 hE5 hE6 hE7
    have HE4:=Lib.hid hE4
    have HE5:=Lib.hid hE5
    have HE6:=Lib.hid hE6
    have HE7:=Lib.hid hE7
    clear hE4 hE5 hE6 hE7
    go_wp2_with fail
    go_at_call 202
    refine (Cn vn ve false wr).mono ?_
    rintro e w5 ⟨rfl,hb5⟩
    have N5:=Lib.hid (HB0.out.trans (hb5.mono (by omega)))
    have r5:=R1.out.call hb5
    have HT5:=Lib.hid (HTW.out.below (hb5.mono (B':=1) (by omega)) (by omega))
    have hz5:=hb5.size
    have z5:w.heap.size+1<w5.heap.size:=by omega
    have q4:w5.cell? ⟨w.heap.size+1,4,none⟩=some (.int .i64 un):=r5.cell 4
    have q5:w5.cell? ⟨w.heap.size+1,5,none⟩=some (.int .i64 ue):=r5.cell 5
    have R5:=Lib.hid r5
    clear r5 hb5 q0 q2 q3 hlt hbs1
    by_cases h4:BF vn ve false=0
    ·rw [h4,Dk]
     have H4:=Lib.hid h4
     clear h4
     go_wp2_with fail
     go_at_call 202
     refine (Cn un ue false w5).mono ?_
     rintro e w6 ⟨rfl,hb6⟩
     have N6:=Lib.hid (N5.out.trans (hb6.mono (by omega)))
     have r6:=R5.out.call hb6
     have HT6:=Lib.hid (HT5.out.below (hb6.mono (B':=1) (by omega)) (by omega))
     have hz6:=hb6.size
     have z6:w.heap.size+1<w6.heap.size:=by omega
     have q2:w6.cell? ⟨w.heap.size+1,2,none⟩=some (.int .i64 vn):=r6.cell 2
     have q3:w6.cell? ⟨w.heap.size+1,3,none⟩=some (.int .i64 ve):=r6.cell 3
     have q6:w6.cell? ⟨w.heap.size+1,4,none⟩=some (.int .i64 un):=r6.cell 4
     have q7:w6.cell? ⟨w.heap.size+1,5,none⟩=some (.int .i64 ue):=r6.cell 5
     clear r6 hb6 q4 q5 z5
     by_cases h5:BF un ue false=0
     ·rw [h5,Dk]
      have H5:=Lib.hid h5
      clear h5
      go_wp2_with fail
      go_quiet (fail)
      go_wp2_with fail
      go_ret
      exact ⟨Aae (HE7.out H4.out H5.out (fun h=>by cases h.1)),by repeat (first|exact N6.out|refine ext_drew ?_|refine DW ?_ _)⟩
     ·have HE:=Lib.hid (HE5.out H4.out h5)
      rw [Dx h5]
      have H5:=Lib.hid h5
      clear h5
      go_wp2_with fail
      go_ret
      exact ⟨Gr HE.out H5.out,N6.out⟩
    ·have HE:=Lib.hid (HE4.out h4)
     rw [Dx h4]
     have H4:=Lib.hid h4
     clear h4
     go_wp2_with fail
     go_ret
     exact ⟨Gr HE.out H4.out,N5.out⟩
theorem YN (A1:Option Addr) (ps:List Prt) (c1:Nat) (A2:Option Addr) (bs:List Bk) (c2:Nat) (A3:Option Addr) (os:List Int) (c3:Nat) (A:Option Addr) (args:List Int) (cap:Nat) (vn ve un ue:Int) (m:Nat) (w:World)
    (hk0:¬ AU 11<0) (hk1:((args.length:Nat):Int)=AU 11) (hl:args.length≤1000000) (hl1:ps.length≤1000000) (hl2:bs.length≤1000000) (hm:m≤w.heap.size) (ha:Am w m A (CO args)) (ht:Ax w) :
    Calls Tryz.prog 95 #[.agg #[.slice A1 ps.length c1,.slice A2 bs.length c2,.slice A3 os.length c3],.agg #[.int .i64 11,.slice A args.length cap,.int .i64 vn,.int .i64 ve,.int .i64 un,.int .i64 ue]] w fun e w'=>e=.returned (GH (BC ps.length bs.length ⟨11,A,args,cap,vn,ve,un,ue⟩))∧Below w.heap.size w w':=by
  have b0:Below w.heap.size w ((w.alloc (.cells #[.slice A1 ps.length c1,.slice A2 bs.length c2,.slice A3 os.length c3] 26)).alloc (.cells #[.int .i64 11,.slice A args.length cap,.int .i64 vn,.int .i64 ve,.int .i64 un,.int .i64 ue] 63)):=Aq (al_ _ _) _
  have r0:=(Bh.new_ w [.slice A1 ps.length c1,.slice A2 bs.length c2,.slice A3 os.length c3] 26).call (al_ _ (.cells #[.int .i64 11,.slice A args.length cap,.int .i64 vn,.int .i64 ve,.int .i64 un,.int .i64 ue] 63))
  have r1:=Bh.new_ (w.alloc (.cells #[.slice A1 ps.length c1,.slice A2 bs.length c2,.slice A3 os.length c3] 26)) [.int .i64 11,.slice A args.length cap,.int .i64 vn,.int .i64 ve,.int .i64 un,.int .i64 ue] 63
  rw [show (w.alloc (.cells #[.slice A1 ps.length c1,.slice A2 bs.length c2,.slice A3 os.length c3] 26)).heap.size=w.heap.size+1 by simp] at r1
  have HT:=Lib.hid ht
  have HA:=Lib.hid ha
  have HK0:=Lib.hid hk0
  have HK1:=Lib.hid hk1
  obtain ⟨K,hK⟩:∃ K,AU 11=K:=⟨_,rfl⟩
  have HKK:=Lib.hid hK
  have hne:(((args.length:Nat):Int) != K)=false:=by rw [hk1,hK];simp
  have hkk:0≤K:=by omega
  clear ht ha hk0 hk1 hK
  go_enter Tryz.func95,Tryz.ntmps95
  have HM:Hid (Dv ps.length bs.length 11=bs.length):=Lib.hid (rfl)
  have HV:Hid (La 11=true):=Lib.hid (by decide)
  have HU:Hid (EJ 11=true):=Lib.hid (by decide)
  go_wp2_with (go_at_call 201;refine (Ea _ _).mono ?_;rintro e w1 ⟨rfl,rfl⟩;rw [HKK.out])
  obtain ⟨W,hW⟩:∃ W,W=((w.alloc (.cells #[.slice A1 ps.length c1,.slice A2 bs.length c2,.slice A3 os.length c3] 26)).alloc (.cells #[.int .i64 11,.slice A args.length cap,.int .i64 vn,.int .i64 ve,.int .i64 un,.int .i64 ue] 63)):=⟨_,rfl⟩
  rw [←hW]
  rw [←hW] at r0 r1 b0
  have hWs:W.heap.size=w.heap.size+2:=by rw [hW];simp
  clear hW
  have HTW:=Lib.hid (HT.out.below b0 HT.out.1)
  have q0:W.cell? ⟨w.heap.size+1,0,none⟩=some (.int .i64 11):=r1.cell 0
  have q2:W.cell? ⟨w.heap.size+1,2,none⟩=some (.int .i64 vn):=r1.cell 2
  have q3:W.cell? ⟨w.heap.size+1,3,none⟩=some (.int .i64 ve):=r1.cell 3
  have HB0:=Lib.hid b0
  have R1:=Lib.hid r1
  have HA2:=Lib.hid (HA.out.below b0 hm)
  have hbs1:(W.heap.size:Int)=w.heap.size+2:=by omega
  clear r0 r1 b0
  go_loopw [36] (fun i wr=>Fz args bs.length W i wr) (fun i _=>args.length - (intOf i).toNat)
  case atStart=>exact ⟨0,Nat.zero_le _,rfl,rfl,rfl⟩
  case round =>
    as_aux_lemma =>
      obtain ⟨t,ht,rfl,hf,rfl⟩:=hrel
      have HF:=Lib.hid hf
      clear hf
      by_cases hlt:t<args.length
      · obtain ⟨ab,ao,z,rfl,hab,hab2,hz,hzc⟩:=HA2.out.int_ hlt
        have HZ:=Lib.hid hz
        clear hz
        by_cases h0:z<0
        · have hE:=Lib.hid (be3 (np:=ps.length) (nb:=bs.length) (b:=⟨11,some ⟨ab,ao,none⟩,args,cap,vn,ve,un,ue⟩) (Int.not_lt.2 HK0.out) HK1.out HM.out (CN HZ.out (by omega) HF.out))
          go_wp2_with fail
          go_ret
          exact ⟨Gr (k:=10) hE.out (by decide),HB0.out⟩
        · have h1:0≤z:=by omega
          clear h0
          by_cases h2:z<(bs.length:Int)
          · have HZ2:=Lib.hid (Dh HZ.out ⟨h1,h2⟩ HF.out)
            go_wp2_with fail
            all_goals try (exfalso;omega)
            exact ⟨⟨t+1,by omega,by go_num,HZ2.out,rfl⟩,by simp [intOf];omega⟩
          · have hE:=Lib.hid (be3 (np:=ps.length) (nb:=bs.length) (b:=⟨11,some ⟨ab,ao,none⟩,args,cap,vn,ve,un,ue⟩) (Int.not_lt.2 HK0.out) HK1.out HM.out (CN HZ.out (by omega) HF.out))
            have h3:(bs.length:Int)≤z:=by omega
            clear h2
            go_wp2_with fail
            all_goals try (exfalso;omega)
            go_ret
            exact ⟨Gr (k:=10) hE.out (by decide),HB0.out⟩
      · have P1:=Lib.hid (DH (k:=t) (by rw [List.length_map];omega) HF.out)
        clear HF
        have hE4:=fun h=>be4 (np:=ps.length) (nb:=bs.length) (b:=⟨11,A,args,cap,vn,ve,un,ue⟩) (Int.not_lt.2 HK0.out) HK1.out HM.out P1.out HV.out h
        have hE5:=fun h4 h=>be5 (np:=ps.length) (nb:=bs.length) (b:=⟨11,A,args,cap,vn,ve,un,ue⟩) (Int.not_lt.2 HK0.out) HK1.out HM.out P1.out HV.out h4 HU.out h
        have hE6:=fun h4 h5 h=>be6 (np:=ps.length) (nb:=bs.length) (b:=⟨11,A,args,cap,vn,ve,un,ue⟩) (Int.not_lt.2 HK0.out) HK1.out HM.out P1.out HV.out h4 HU.out h5 h
        have hE7:=fun h4 h5 h=>be7 (np:=ps.length) (nb:=bs.length) (b:=⟨11,A,args,cap,vn,ve,un,ue⟩) (Int.not_lt.2 HK0.out) HK1.out HM.out P1.out HV.out h4 HU.out h5 h
        dsimp only at hE4 hE5 hE6 hE7
        have HE4:=Lib.hid hE4
        have HE5:=Lib.hid hE5
        have HE6:=Lib.hid hE6
        have HE7:=Lib.hid hE7
        clear hE4 hE5 hE6 hE7
        go_wp2_with fail
        go_at_call 202
        refine (Cn vn ve true wr).mono ?_
        rintro e w5 ⟨rfl,hb5⟩
        have N5:=Lib.hid (HB0.out.trans (hb5.mono (by omega)))
        have r5:=R1.out.call hb5
        have HT5:=Lib.hid (HTW.out.below (hb5.mono (B':=1) (by omega)) (by omega))
        have hz5:=hb5.size
        have z5:w.heap.size+1<w5.heap.size:=by omega
        have q4:w5.cell? ⟨w.heap.size+1,4,none⟩=some (.int .i64 un):=r5.cell 4
        have q5:w5.cell? ⟨w.heap.size+1,5,none⟩=some (.int .i64 ue):=r5.cell 5
        have R5:=Lib.hid r5
        clear r5 hb5 q0 q2 q3 hlt hbs1
        by_cases h4:BF vn ve true=0
        · rw [h4,Dk]
          have H4:=Lib.hid h4
          clear h4
          go_wp2_with fail
          go_at_call 202
          refine (Cn un ue true w5).mono ?_
          rintro e w6 ⟨rfl,hb6⟩
          have N6:=Lib.hid (N5.out.trans (hb6.mono (by omega)))
          have r6:=R5.out.call hb6
          have HT6:=Lib.hid (HT5.out.below (hb6.mono (B':=1) (by omega)) (by omega))
          have hz6:=hb6.size
          have z6:w.heap.size+1<w6.heap.size:=by omega
          have q2:w6.cell? ⟨w.heap.size+1,2,none⟩=some (.int .i64 vn):=r6.cell 2
          have q3:w6.cell? ⟨w.heap.size+1,3,none⟩=some (.int .i64 ve):=r6.cell 3
          have q6:w6.cell? ⟨w.heap.size+1,4,none⟩=some (.int .i64 un):=r6.cell 4
          have q7:w6.cell? ⟨w.heap.size+1,5,none⟩=some (.int .i64 ue):=r6.cell 5
          clear r6 hb6 q4 q5 z5
          by_cases h5:BF un ue true=0
          · rw [h5,Dk]
            have H5:=Lib.hid h5
            clear h5
            go_wp2_with fail
            have hk:KP w6 (w.heap.size+2) w6:=⟨Below.refl _ _,by omega⟩
            have s1:=Mr H4.out
            have s2:=Mr H5.out
            have HS1:=Lib.hid s1
            have HS2:=Lib.hid s2
            have l1:(Ad (Ai vn 0 ve).1.natAbs).length≤50000:=Wn s1
            have l2:(Ad (Ai un 0 ue).1.natAbs).length≤50000:=Wn s2
            have HL1:=Lib.hid l1
            have HL2:=Lib.hid l2
            obtain ⟨C,hC⟩:∃ C,Ml vn ve un ue=C:=⟨_,rfl⟩
            have HPC:=Lib.hid ((Abx s1 s2).trans hC)
            have HC:=Lib.hid hC
            clear s1 s2 l1 l2 hC
            go_region_held3 (fun w'=>(∀ b o,b<w.heap.size+2→w'.cell? ⟨b,o,none⟩=w6.cell? ⟨b,o,none⟩)∧KP w6 (w.heap.size+2) w')
              (first
                | (refine KP.all ?_
                   first
                     | assumption
                     | exact hk
                     | exact hk.drew))
              (first
                | (go_at_call_of 203 (Value.agg #[.int .i64 vn,.int .i64 ve]);refine (PZ vn ve _ HS1.out (HT6.out.below (Below.refl _ w6).drew HT6.out.1)).mono ?_;(rintro e w7 ⟨v7,rfl,D7,hb7⟩;have hk7:=hk.drew.call hb7;have HT7:=(HT6.out.below (Below.refl _ w6).drew HT6.out.1).call hb7))
                | (go_at_call_of 203 (Value.agg #[.int .i64 un,.int .i64 ue]);refine (PZ un ue _ HS2.out HT7).mono ?_;(rintro e w8 ⟨v8,rfl,D8,hb8⟩;have hk8:=hk7.call hb8;have D7':=D7.below hb8 (Nat.le_refl _)))
                | (go_at_call 15;refine (SN (D7'.more hb8.size) D8 (Nat.le_refl _) HL1.out HL2.out).mono ?_;(rintro e w9 ⟨rfl,hb9⟩;have hk9:=hk8.call hb9;rw [HPC.out])))
            have N9:=Lib.hid (N6.out.trans (hk9.is.mono (by omega)))
            clear D7 D7' D8 hb7 hb8 hb9 HT7 hk7 hk8 hk9
            by_cases hc:0<C
            · have HE:=Lib.hid (HE6.out H4.out H5.out ⟨by trivial,by rw [HC.out];exact hc⟩)
              go_wp2_with fail
              go_ret
              exact ⟨Gr HE.out (by decide),N9.out⟩
            · have HE:=Lib.hid (HE7.out H4.out H5.out (fun h=>hc (by rw [←HC.out];exact h.2)))
              go_wp2_with fail
              go_ret
              exact ⟨Aae HE.out,N9.out⟩
          · have HE:=Lib.hid (HE5.out H4.out h5)
            rw [Dx h5]
            have H5:=Lib.hid h5
            clear h5
            go_wp2_with fail
            go_ret
            exact ⟨Gr HE.out H5.out,N6.out⟩
        · have HE:=Lib.hid (HE4.out h4)
          rw [Dx h4]
          have H4:=Lib.hid h4
          clear h4
          go_wp2_with fail
          go_ret
          exact ⟨Gr HE.out H4.out,N5.out⟩
theorem AbF (A1:Option Addr) (ps:List Prt) (c1:Nat) (A2:Option Addr) (bs:List Bk) (c2:Nat) (A3:Option Addr) (os:List Int) (c3:Nat) (A:Option Addr) (args:List Int) (cap:Nat) (vn ve un ue:Int) (m:Nat) (w:World)
  (hk0:¬ AU 1<0) (hk1:((args.length:Nat):Int)=AU 1) (hl:args.length≤1000000) (hl1:ps.length≤1000000) (hl2:bs.length≤1000000) (hm:m≤w.heap.size) (ha:Am w m A (CO args)) (ht:Ax w) :
  Calls Tryz.prog 95 #[.agg #[.slice A1 ps.length c1,.slice A2 bs.length c2,.slice A3 os.length c3],.agg #[.int .i64 1,.slice A args.length cap,.int .i64 vn,.int .i64 ve,.int .i64 un,.int .i64 ue]] w fun e w'=>e=.returned (GH (BC ps.length bs.length ⟨1,A,args,cap,vn,ve,un,ue⟩))∧Below w.heap.size w w':=by
 have b0:Below w.heap.size w ((w.alloc (.cells #[.slice A1 ps.length c1,.slice A2 bs.length c2,.slice A3 os.length c3] 26)).alloc (.cells #[.int .i64 1,.slice A args.length cap,.int .i64 vn,.int .i64 ve,.int .i64 un,.int .i64 ue] 63)):=Aq (al_ _ _) _
 have r0:=(Bh.new_ w [.slice A1 ps.length c1,.slice A2 bs.length c2,.slice A3 os.length c3] 26).call (al_ _ (.cells #[.int .i64 1,.slice A args.length cap,.int .i64 vn,.int .i64 ve,.int .i64 un,.int .i64 ue] 63))
 have r1:=Bh.new_ (w.alloc (.cells #[.slice A1 ps.length c1,.slice A2 bs.length c2,.slice A3 os.length c3] 26)) [.int .i64 1,.slice A args.length cap,.int .i64 vn,.int .i64 ve,.int .i64 un,.int .i64 ue] 63
 rw [show (w.alloc (.cells #[.slice A1 ps.length c1,.slice A2 bs.length c2,.slice A3 os.length c3] 26)).heap.size=w.heap.size+1 by simp] at r1
 have HT:=Lib.hid ht
 have HA:=Lib.hid ha
 have HK0:=Lib.hid hk0
 have HK1:=Lib.hid hk1
 obtain ⟨K,hK⟩:∃ K,AU 1=K:=⟨_,rfl⟩
 have HKK:=Lib.hid hK
 have hne:(((args.length:Nat):Int) != K)=false:=by rw [hk1,hK];simp
 have hkk:0≤K:=by omega
 clear ht ha hk0 hk1 hK
 go_enter Tryz.func95,Tryz.ntmps95
 have HM:Hid (Dv ps.length bs.length 1=bs.length):=Lib.hid (rfl)
 have HV:Hid (La 1=true):=Lib.hid (by decide)
 have HU:Hid (EJ 1=false):=Lib.hid (by decide)
 go_wp2_with (go_at_call 201;refine (Ea _ _).mono ?_;rintro e w1 ⟨rfl,rfl⟩;rw [HKK.out])
 obtain ⟨W,hW⟩:∃ W,W=((w.alloc (.cells #[.slice A1 ps.length c1,.slice A2 bs.length c2,.slice A3 os.length c3] 26)).alloc (.cells #[.int .i64 1,.slice A args.length cap,.int .i64 vn,.int .i64 ve,.int .i64 un,.int .i64 ue] 63)):=⟨_,rfl⟩
 rw [←hW]
 rw [←hW] at r0 r1 b0
 have hWs:W.heap.size=w.heap.size+2:=by rw [hW];simp
 clear hW
 have HTW:=Lib.hid (HT.out.below b0 HT.out.1)
 have q0:W.cell? ⟨w.heap.size+1,0,none⟩=some (.int .i64 1):=r1.cell 0
 have q2:W.cell? ⟨w.heap.size+1,2,none⟩=some (.int .i64 vn):=r1.cell 2
 have q3:W.cell? ⟨w.heap.size+1,3,none⟩=some (.int .i64 ve):=r1.cell 3
 have HB0:=Lib.hid b0
 have R1:=Lib.hid r1
 have HA2:=Lib.hid (HA.out.below b0 hm)
 have hbs1:(W.heap.size:Int)=w.heap.size+2:=by omega
 clear r0 r1 b0
 go_loopw [36] (fun i wr=>Fz args bs.length W i wr) (fun i _=>args.length - (intOf i).toNat)
 case atStart=>exact ⟨0,Nat.zero_le _,rfl,rfl,rfl⟩
 case round =>
  as_aux_lemma =>
   obtain ⟨t,ht,rfl,hf,rfl⟩:=hrel
   have HF:=Lib.hid hf
   clear hf
   by_cases hlt:t<args.length
   ·obtain ⟨ab,ao,z,rfl,hab,hab2,hz,hzc⟩:=HA2.out.int_ hlt
    have HZ:=Lib.hid hz
    clear hz
    by_cases h0:z<0
    ·have hE:=Lib.hid (be3 (np:=ps.length) (nb:=bs.length) (b:=⟨1,some ⟨ab,ao,none⟩,args,cap,vn,ve,un,ue⟩) (Int.not_lt.2 HK0.out) HK1.out HM.out (CN HZ.out (by omega) HF.out))
     go_wp2_with fail
     go_ret
     exact ⟨Gr (k:=10) hE.out (by decide),HB0.out⟩
    ·have h1:0≤z:=by omega
     clear h0
     by_cases h2:z<(bs.length:Int)
     ·have HZ2:=Lib.hid (Dh HZ.out ⟨h1,h2⟩ HF.out)
      go_wp2_with fail
      all_goals try (exfalso;omega)
      exact ⟨⟨t+1,by omega,by go_num,HZ2.out,rfl⟩,by simp [intOf];omega⟩
     ·have hE:=Lib.hid (be3 (np:=ps.length) (nb:=bs.length) (b:=⟨1,some ⟨ab,ao,none⟩,args,cap,vn,ve,un,ue⟩) (Int.not_lt.2 HK0.out) HK1.out HM.out (CN HZ.out (by omega) HF.out))
      have h3:(bs.length:Int)≤z:=by omega
      clear h2
      go_wp2_with fail
      all_goals try (exfalso;omega)
      go_ret
      exact ⟨Gr (k:=10) hE.out (by decide),HB0.out⟩
   ·have P1:=Lib.hid (DH (k:=t) (by rw [List.length_map];omega) HF.out)
    clear HF
    have hE4:=fun h=>be4 (np:=ps.length) (nb:=bs.length) (b:=⟨1,A,args,cap,vn,ve,un,ue⟩) (Int.not_lt.2 HK0.out) HK1.out HM.out P1.out HV.out h
    have hE5:=fun h4 h=>be5 (np:=ps.length) (nb:=bs.length) (b:=⟨1,A,args,cap,vn,ve,un,ue⟩) (Int.not_lt.2 HK0.out) HK1.out HM.out P1.out HV.out h4 HU.out h
    have hE6:=fun h4 h5 h=>be6 (np:=ps.length) (nb:=bs.length) (b:=⟨1,A,args,cap,vn,ve,un,ue⟩) (Int.not_lt.2 HK0.out) HK1.out HM.out P1.out HV.out h4 HU.out h5 h
    have hE7:=fun h4 h5 h=>be7 (np:=ps.length) (nb:=bs.length) (b:=⟨1,A,args,cap,vn,ve,un,ue⟩) (Int.not_lt.2 HK0.out) HK1.out HM.out P1.out HV.out h4 HU.out h5 h
    dsimp only at hE4 hE5 hE6 hE7
    have HE4:=Lib.hid hE4
    have HE5:=Lib.hid hE5
    have HE6:=Lib.hid hE6
    have HE7:=Lib.hid hE7
    clear hE4 hE5 hE6 hE7
    go_wp2_with fail
    go_at_call 202
    refine (Cn vn ve true wr).mono ?_
    rintro e w5 ⟨rfl,hb5⟩
    have N5:=Lib.hid (HB0.out.trans (hb5.mono (by omega)))
    have r5:=R1.out.call hb5
    have HT5:=Lib.hid (HTW.out.below (hb5.mono (B':=1) (by omega)) (by omega))
    have hz5:=hb5.size
    have z5:w.heap.size+1<w5.heap.size:=by omega
    have q4:w5.cell? ⟨w.heap.size+1,4,none⟩=some (.int .i64 un):=r5.cell 4
    have q5:w5.cell? ⟨w.heap.size+1,5,none⟩=some (.int .i64 ue):=r5.cell 5
    have R5:=Lib.hid r5
    clear r5 hb5 q0 q2 q3 hlt hbs1
    by_cases h4:BF vn ve true=0
    ·rw [h4,Dk]
     have H4:=Lib.hid h4
     clear h4
     go_wp2_with fail
     go_at_call 202
     refine (Cn un ue false w5).mono ?_
     rintro e w6 ⟨rfl,hb6⟩
     have N6:=Lib.hid (N5.out.trans (hb6.mono (by omega)))
     have r6:=R5.out.call hb6
     have HT6:=Lib.hid (HT5.out.below (hb6.mono (B':=1) (by omega)) (by omega))
     have hz6:=hb6.size
     have z6:w.heap.size+1<w6.heap.size:=by omega
     have q2:w6.cell? ⟨w.heap.size+1,2,none⟩=some (.int .i64 vn):=r6.cell 2
     have q3:w6.cell? ⟨w.heap.size+1,3,none⟩=some (.int .i64 ve):=r6.cell 3
     have q6:w6.cell? ⟨w.heap.size+1,4,none⟩=some (.int .i64 un):=r6.cell 4
     have q7:w6.cell? ⟨w.heap.size+1,5,none⟩=some (.int .i64 ue):=r6.cell 5
     clear r6 hb6 q4 q5 z5
     by_cases h5:BF un ue false=0
     ·rw [h5,Dk]
      have H5:=Lib.hid h5
      clear h5
      go_wp2_with fail
      go_quiet (fail)
      go_wp2_with fail
      go_ret
      exact ⟨Aae (HE7.out H4.out H5.out (fun h=>by cases h.1)),by repeat (first|exact N6.out|refine ext_drew ?_|refine DW ?_ _)⟩
     ·have HE:=Lib.hid (HE5.out H4.out h5)
      rw [Dx h5]
      have H5:=Lib.hid h5
      clear h5
      go_wp2_with fail
      go_ret
      exact ⟨Gr HE.out H5.out,N6.out⟩
    ·have HE:=Lib.hid (HE4.out h4)
     rw [Dx h4]
     have H4:=Lib.hid h4
     clear h4
     go_wp2_with fail
     go_ret
     exact ⟨Gr HE.out H4.out,N5.out⟩
theorem AbG (A1:Option Addr) (ps:List Prt) (c1:Nat) (A2:Option Addr) (bs:List Bk) (c2:Nat) (A3:Option Addr) (os:List Int) (c3:Nat) (A:Option Addr) (args:List Int) (cap:Nat) (vn ve un ue:Int) (m:Nat) (w:World)
  (hk0:¬ AU 2<0) (hk1:((args.length:Nat):Int)=AU 2) (hl:args.length≤1000000) (hl1:ps.length≤1000000) (hl2:bs.length≤1000000) (hm:m≤w.heap.size) (ha:Am w m A (CO args)) (ht:Ax w) :
  Calls Tryz.prog 95 #[.agg #[.slice A1 ps.length c1,.slice A2 bs.length c2,.slice A3 os.length c3],.agg #[.int .i64 2,.slice A args.length cap,.int .i64 vn,.int .i64 ve,.int .i64 un,.int .i64 ue]] w fun e w'=>e=.returned (GH (BC ps.length bs.length ⟨2,A,args,cap,vn,ve,un,ue⟩))∧Below w.heap.size w w':=by
 have b0:Below w.heap.size w ((w.alloc (.cells #[.slice A1 ps.length c1,.slice A2 bs.length c2,.slice A3 os.length c3] 26)).alloc (.cells #[.int .i64 2,.slice A args.length cap,.int .i64 vn,.int .i64 ve,.int .i64 un,.int .i64 ue] 63)):=Aq (al_ _ _) _
 have r0:=(Bh.new_ w [.slice A1 ps.length c1,.slice A2 bs.length c2,.slice A3 os.length c3] 26).call (al_ _ (.cells #[.int .i64 2,.slice A args.length cap,.int .i64 vn,.int .i64 ve,.int .i64 un,.int .i64 ue] 63))
 have r1:=Bh.new_ (w.alloc (.cells #[.slice A1 ps.length c1,.slice A2 bs.length c2,.slice A3 os.length c3] 26)) [.int .i64 2,.slice A args.length cap,.int .i64 vn,.int .i64 ve,.int .i64 un,.int .i64 ue] 63
 rw [show (w.alloc (.cells #[.slice A1 ps.length c1,.slice A2 bs.length c2,.slice A3 os.length c3] 26)).heap.size=w.heap.size+1 by simp] at r1
 have HT:=Lib.hid ht
 have HA:=Lib.hid ha
 have HK0:=Lib.hid hk0
 have HK1:=Lib.hid hk1
 obtain ⟨K,hK⟩:∃ K,AU 2=K:=⟨_,rfl⟩
 have HKK:=Lib.hid hK
 have hne:(((args.length:Nat):Int) != K)=false:=by rw [hk1,hK];simp
 have hkk:0≤K:=by omega
 clear ht ha hk0 hk1 hK
 go_enter Tryz.func95,Tryz.ntmps95
 have HM:Hid (Dv ps.length bs.length 2=bs.length):=Lib.hid (rfl)
 have HV:Hid (La 2=true):=Lib.hid (by decide)
 have HU:Hid (EJ 2=false):=Lib.hid (by decide)
 go_wp2_with (go_at_call 201;refine (Ea _ _).mono ?_;rintro e w1 ⟨rfl,rfl⟩;rw [HKK.out])
 obtain ⟨W,hW⟩:∃ W,W=((w.alloc (.cells #[.slice A1 ps.length c1,.slice A2 bs.length c2,.slice A3 os.length c3] 26)).alloc (.cells #[.int .i64 2,.slice A args.length cap,.int .i64 vn,.int .i64 ve,.int .i64 un,.int .i64 ue] 63)):=⟨_,rfl⟩
 rw [←hW]
 rw [←hW] at r0 r1 b0
 have hWs:W.heap.size=w.heap.size+2:=by rw [hW];simp
 clear hW
 have HTW:=Lib.hid (HT.out.below b0 HT.out.1)
 have q0:W.cell? ⟨w.heap.size+1,0,none⟩=some (.int .i64 2):=r1.cell 0
 have q2:W.cell? ⟨w.heap.size+1,2,none⟩=some (.int .i64 vn):=r1.cell 2
 have q3:W.cell? ⟨w.heap.size+1,3,none⟩=some (.int .i64 ve):=r1.cell 3
 have HB0:=Lib.hid b0
 have R1:=Lib.hid r1
 have HA2:=Lib.hid (HA.out.below b0 hm)
 have hbs1:(W.heap.size:Int)=w.heap.size+2:=by omega
 clear r0 r1 b0
 go_loopw [36] (fun i wr=>Fz args bs.length W i wr) (fun i _=>args.length - (intOf i).toNat)
 case atStart=>exact ⟨0,Nat.zero_le _,rfl,rfl,rfl⟩
 case round =>
  as_aux_lemma =>
   obtain ⟨t,ht,rfl,hf,rfl⟩:=hrel
   have HF:=Lib.hid hf
   clear hf
   by_cases hlt:t<args.length
   ·obtain ⟨ab,ao,z,rfl,hab,hab2,hz,hzc⟩:=HA2.out.int_ hlt
    have HZ:=Lib.hid hz
    clear hz
    by_cases h0:z<0
    ·have hE:=Lib.hid (be3 (np:=ps.length) (nb:=bs.length) (b:=⟨2,some ⟨ab,ao,none⟩,args,cap,vn,ve,un,ue⟩) (Int.not_lt.2 HK0.out) HK1.out HM.out (CN HZ.out (by omega) HF.out))
     go_wp2_with fail
     go_ret
     exact ⟨Gr (k:=10) hE.out (by decide),HB0.out⟩
    ·have h1:0≤z:=by omega
     clear h0
     by_cases h2:z<(bs.length:Int)
     ·have HZ2:=Lib.hid (Dh HZ.out ⟨h1,h2⟩ HF.out)
      go_wp2_with fail
      all_goals try (exfalso;omega)
      exact ⟨⟨t+1,by omega,by go_num,HZ2.out,rfl⟩,by simp [intOf];omega⟩
     ·have hE:=Lib.hid (be3 (np:=ps.length) (nb:=bs.length) (b:=⟨2,some ⟨ab,ao,none⟩,args,cap,vn,ve,un,ue⟩) (Int.not_lt.2 HK0.out) HK1.out HM.out (CN HZ.out (by omega) HF.out))
      have h3:(bs.length:Int)≤z:=by omega
      clear h2
      go_wp2_with fail
      all_goals try (exfalso;omega)
      go_ret
      exact ⟨Gr (k:=10) hE.out (by decide),HB0.out⟩
   ·have P1:=Lib.hid (DH (k:=t) (by rw [List.length_map];omega) HF.out)
    clear HF
    have hE4:=fun h=>be4 (np:=ps.length) (nb:=bs.length) (b:=⟨2,A,args,cap,vn,ve,un,ue⟩) (Int.not_lt.2 HK0.out) HK1.out HM.out P1.out HV.out h
    have hE5:=fun h4 h=>be5 (np:=ps.length) (nb:=bs.length) (b:=⟨2,A,args,cap,vn,ve,un,ue⟩) (Int.not_lt.2 HK0.out) HK1.out HM.out P1.out HV.out h4 HU.out h
    have hE6:=fun h4 h5 h=>be6 (np:=ps.length) (nb:=bs.length) (b:=⟨2,A,args,cap,vn,ve,un,ue⟩) (Int.not_lt.2 HK0.out) HK1.out HM.out P1.out HV.out h4 HU.out h5 h
    have hE7:=fun h4 h5 h=>be7 (np:=ps.length) (nb:=bs.length) (b:=⟨2,A,args,cap,vn,ve,un,ue⟩) (Int.not_lt.2 HK0.out) HK1.out HM.out P1.out HV.out h4 HU.out h5 h
    dsimp only at hE4 hE5 hE6 hE7
    have HE4:=Lib.hid hE4
    have HE5:=Lib.hid hE5
    have HE6:=Lib.hid hE6
    have HE7:=Lib.hid hE7
    clear hE4 hE5 hE6 hE7
    go_wp2_with fail
    go_at_call 202
    refine (Cn vn ve true wr).mono ?_
    rintro e w5 ⟨rfl,hb5⟩
    have N5:=Lib.hid (HB0.out.trans (hb5.mono (by omega)))
    have r5:=R1.out.call hb5
    have HT5:=Lib.hid (HTW.out.below (hb5.mono (B':=1) (by omega)) (by omega))
    have hz5:=hb5.size
    have z5:w.heap.size+1<w5.heap.size:=by omega
    have q4:w5.cell? ⟨w.heap.size+1,4,none⟩=some (.int .i64 un):=r5.cell 4
    have q5:w5.cell? ⟨w.heap.size+1,5,none⟩=some (.int .i64 ue):=r5.cell 5
    have R5:=Lib.hid r5
    clear r5 hb5 q0 q2 q3 hlt hbs1
    by_cases h4:BF vn ve true=0
    ·rw [h4,Dk]
     have H4:=Lib.hid h4
     clear h4
     go_wp2_with fail
     go_at_call 202
     refine (Cn un ue false w5).mono ?_
     rintro e w6 ⟨rfl,hb6⟩
     have N6:=Lib.hid (N5.out.trans (hb6.mono (by omega)))
     have r6:=R5.out.call hb6
     have HT6:=Lib.hid (HT5.out.below (hb6.mono (B':=1) (by omega)) (by omega))
     have hz6:=hb6.size
     have z6:w.heap.size+1<w6.heap.size:=by omega
     have q2:w6.cell? ⟨w.heap.size+1,2,none⟩=some (.int .i64 vn):=r6.cell 2
     have q3:w6.cell? ⟨w.heap.size+1,3,none⟩=some (.int .i64 ve):=r6.cell 3
     have q6:w6.cell? ⟨w.heap.size+1,4,none⟩=some (.int .i64 un):=r6.cell 4
     have q7:w6.cell? ⟨w.heap.size+1,5,none⟩=some (.int .i64 ue):=r6.cell 5
     clear r6 hb6 q4 q5 z5
     by_cases h5:BF un ue false=0
     ·rw [h5,Dk]
      have H5:=Lib.hid h5
      clear h5
      go_wp2_with fail
      go_quiet (fail)
      go_wp2_with fail
      go_ret
      exact ⟨Aae (HE7.out H4.out H5.out (fun h=>by cases h.1)),by repeat (first|exact N6.out|refine ext_drew ?_|refine DW ?_ _)⟩
     ·have HE:=Lib.hid (HE5.out H4.out h5)
      rw [Dx h5]
      have H5:=Lib.hid h5
      clear h5
      go_wp2_with fail
      go_ret
      exact ⟨Gr HE.out H5.out,N6.out⟩
    ·have HE:=Lib.hid (HE4.out h4)
     rw [Dx h4]
     have H4:=Lib.hid h4
     clear h4
     go_wp2_with fail
     go_ret
     exact ⟨Gr HE.out H4.out,N5.out⟩
theorem AbH (A1:Option Addr) (ps:List Prt) (c1:Nat) (A2:Option Addr) (bs:List Bk) (c2:Nat) (A3:Option Addr) (os:List Int) (c3:Nat) (A:Option Addr) (args:List Int) (cap:Nat) (vn ve un ue:Int) (m:Nat) (w:World)
  (hk0:¬ AU 6<0) (hk1:((args.length:Nat):Int)=AU 6) (hl:args.length≤1000000) (hl1:ps.length≤1000000) (hl2:bs.length≤1000000) (hm:m≤w.heap.size) (ha:Am w m A (CO args)) (ht:Ax w) :
  Calls Tryz.prog 95 #[.agg #[.slice A1 ps.length c1,.slice A2 bs.length c2,.slice A3 os.length c3],.agg #[.int .i64 6,.slice A args.length cap,.int .i64 vn,.int .i64 ve,.int .i64 un,.int .i64 ue]] w fun e w'=>e=.returned (GH (BC ps.length bs.length ⟨6,A,args,cap,vn,ve,un,ue⟩))∧Below w.heap.size w w':=by
 have b0:Below w.heap.size w ((w.alloc (.cells #[.slice A1 ps.length c1,.slice A2 bs.length c2,.slice A3 os.length c3] 26)).alloc (.cells #[.int .i64 6,.slice A args.length cap,.int .i64 vn,.int .i64 ve,.int .i64 un,.int .i64 ue] 63)):=Aq (al_ _ _) _
 have r0:=(Bh.new_ w [.slice A1 ps.length c1,.slice A2 bs.length c2,.slice A3 os.length c3] 26).call (al_ _ (.cells #[.int .i64 6,.slice A args.length cap,.int .i64 vn,.int .i64 ve,.int .i64 un,.int .i64 ue] 63))
 have r1:=Bh.new_ (w.alloc (.cells #[.slice A1 ps.length c1,.slice A2 bs.length c2,.slice A3 os.length c3] 26)) [.int .i64 6,.slice A args.length cap,.int .i64 vn,.int .i64 ve,.int .i64 un,.int .i64 ue] 63
 rw [show (w.alloc (.cells #[.slice A1 ps.length c1,.slice A2 bs.length c2,.slice A3 os.length c3] 26)).heap.size=w.heap.size+1 by simp] at r1
 have HT:=Lib.hid ht
 have HA:=Lib.hid ha
 have HK0:=Lib.hid hk0
 have HK1:=Lib.hid hk1
 obtain ⟨K,hK⟩:∃ K,AU 6=K:=⟨_,rfl⟩
 have HKK:=Lib.hid hK
 have hne:(((args.length:Nat):Int) != K)=false:=by rw [hk1,hK];simp
 have hkk:0≤K:=by omega
 clear ht ha hk0 hk1 hK
 go_enter Tryz.func95,Tryz.ntmps95
 have HM:Hid (Dv ps.length bs.length 6=bs.length):=Lib.hid (rfl)
 have HV:Hid (La 6=true):=Lib.hid (by decide)
 have HU:Hid (EJ 6=false):=Lib.hid (by decide)
 go_wp2_with (go_at_call 201;refine (Ea _ _).mono ?_;rintro e w1 ⟨rfl,rfl⟩;rw [HKK.out])
 obtain ⟨W,hW⟩:∃ W,W=((w.alloc (.cells #[.slice A1 ps.length c1,.slice A2 bs.length c2,.slice A3 os.length c3] 26)).alloc (.cells #[.int .i64 6,.slice A args.length cap,.int .i64 vn,.int .i64 ve,.int .i64 un,.int .i64 ue] 63)):=⟨_,rfl⟩
 rw [←hW]
 rw [←hW] at r0 r1 b0
 have hWs:W.heap.size=w.heap.size+2:=by rw [hW];simp
 clear hW
 have HTW:=Lib.hid (HT.out.below b0 HT.out.1)
 have q0:W.cell? ⟨w.heap.size+1,0,none⟩=some (.int .i64 6):=r1.cell 0
 have q2:W.cell? ⟨w.heap.size+1,2,none⟩=some (.int .i64 vn):=r1.cell 2
 have q3:W.cell? ⟨w.heap.size+1,3,none⟩=some (.int .i64 ve):=r1.cell 3
 have HB0:=Lib.hid b0
 have R1:=Lib.hid r1
 have HA2:=Lib.hid (HA.out.below b0 hm)
 have hbs1:(W.heap.size:Int)=w.heap.size+2:=by omega
 clear r0 r1 b0
 go_loopw [36] (fun i wr=>Fz args bs.length W i wr) (fun i _=>args.length - (intOf i).toNat)
 case atStart=>exact ⟨0,Nat.zero_le _,rfl,rfl,rfl⟩
 case round =>
  as_aux_lemma =>
   obtain ⟨t,ht,rfl,hf,rfl⟩:=hrel
   have HF:=Lib.hid hf
   clear hf
   by_cases hlt:t<args.length
   ·obtain ⟨ab,ao,z,rfl,hab,hab2,hz,hzc⟩:=HA2.out.int_ hlt
    have HZ:=Lib.hid hz
    clear hz
    by_cases h0:z<0
    ·have hE:=Lib.hid (be3 (np:=ps.length) (nb:=bs.length) (b:=⟨6,some ⟨ab,ao,none⟩,args,cap,vn,ve,un,ue⟩) (Int.not_lt.2 HK0.out) HK1.out HM.out (CN HZ.out (by omega) HF.out))
     go_wp2_with fail
     go_ret
     exact ⟨Gr (k:=10) hE.out (by decide),HB0.out⟩
    ·have h1:0≤z:=by omega
     clear h0
     by_cases h2:z<(bs.length:Int)
     ·have HZ2:=Lib.hid (Dh HZ.out ⟨h1,h2⟩ HF.out)
      go_wp2_with fail
      all_goals try (exfalso;omega)
      exact ⟨⟨t+1,by omega,by go_num,HZ2.out,rfl⟩,by simp [intOf];omega⟩
     ·have hE:=Lib.hid (be3 (np:=ps.length) (nb:=bs.length) (b:=⟨6,some ⟨ab,ao,none⟩,args,cap,vn,ve,un,ue⟩) (Int.not_lt.2 HK0.out) HK1.out HM.out (CN HZ.out (by omega) HF.out))
      have h3:(bs.length:Int)≤z:=by omega
      clear h2
      go_wp2_with fail
      all_goals try (exfalso;omega)
      go_ret
      exact ⟨Gr (k:=10) hE.out (by decide),HB0.out⟩
   ·have P1:=Lib.hid (DH (k:=t) (by rw [List.length_map];omega) HF.out)
    clear HF
    have hE4:=fun h=>be4 (np:=ps.length) (nb:=bs.length) (b:=⟨6,A,args,cap,vn,ve,un,ue⟩) (Int.not_lt.2 HK0.out) HK1.out HM.out P1.out HV.out h
    have hE5:=fun h4 h=>be5 (np:=ps.length) (nb:=bs.length) (b:=⟨6,A,args,cap,vn,ve,un,ue⟩) (Int.not_lt.2 HK0.out) HK1.out HM.out P1.out HV.out h4 HU.out h
    have hE6:=fun h4 h5 h=>be6 (np:=ps.length) (nb:=bs.length) (b:=⟨6,A,args,cap,vn,ve,un,ue⟩) (Int.not_lt.2 HK0.out) HK1.out HM.out P1.out HV.out h4 HU.out h5 h
    have hE7:=fun h4 h5 h=>be7 (np:=ps.length) (nb:=bs.length) (b:=⟨6,A,args,cap,vn,ve,un,ue⟩) (Int.not_lt.2 HK0.out) HK1.out HM.out P1.out HV.out h4 HU.out h5 h
    dsimp only at hE4 hE5 hE6 hE7
    have HE4:=Lib.hid hE4
    have HE5:=Lib.hid hE5
    have HE6:=Lib.hid hE6
    have HE7:=Lib.hid hE7
    clear hE4 hE5 hE6 hE7
    go_wp2_with fail
    go_at_call 202
    refine (Cn vn ve true wr).mono ?_
    rintro e w5 ⟨rfl,hb5⟩
    have N5:=Lib.hid (HB0.out.trans (hb5.mono (by omega)))
    have r5:=R1.out.call hb5
    have HT5:=Lib.hid (HTW.out.below (hb5.mono (B':=1) (by omega)) (by omega))
    have hz5:=hb5.size
    have z5:w.heap.size+1<w5.heap.size:=by omega
    have q4:w5.cell? ⟨w.heap.size+1,4,none⟩=some (.int .i64 un):=r5.cell 4
    have q5:w5.cell? ⟨w.heap.size+1,5,none⟩=some (.int .i64 ue):=r5.cell 5
    have R5:=Lib.hid r5
    clear r5 hb5 q0 q2 q3 hlt hbs1
    by_cases h4:BF vn ve true=0
    ·rw [h4,Dk]
     have H4:=Lib.hid h4
     clear h4
     go_wp2_with fail
     go_at_call 202
     refine (Cn un ue false w5).mono ?_
     rintro e w6 ⟨rfl,hb6⟩
     have N6:=Lib.hid (N5.out.trans (hb6.mono (by omega)))
     have r6:=R5.out.call hb6
     have HT6:=Lib.hid (HT5.out.below (hb6.mono (B':=1) (by omega)) (by omega))
     have hz6:=hb6.size
     have z6:w.heap.size+1<w6.heap.size:=by omega
     have q2:w6.cell? ⟨w.heap.size+1,2,none⟩=some (.int .i64 vn):=r6.cell 2
     have q3:w6.cell? ⟨w.heap.size+1,3,none⟩=some (.int .i64 ve):=r6.cell 3
     have q6:w6.cell? ⟨w.heap.size+1,4,none⟩=some (.int .i64 un):=r6.cell 4
     have q7:w6.cell? ⟨w.heap.size+1,5,none⟩=some (.int .i64 ue):=r6.cell 5
     clear r6 hb6 q4 q5 z5
     by_cases h5:BF un ue false=0
     ·rw [h5,Dk]
      have H5:=Lib.hid h5
      clear h5
      go_wp2_with fail
      go_quiet (fail)
      go_wp2_with fail
      go_ret
      exact ⟨Aae (HE7.out H4.out H5.out (fun h=>by cases h.1)),by repeat (first|exact N6.out|refine ext_drew ?_|refine DW ?_ _)⟩
     ·have HE:=Lib.hid (HE5.out H4.out h5)
      rw [Dx h5]
      have H5:=Lib.hid h5
      clear h5
      go_wp2_with fail
      go_ret
      exact ⟨Gr HE.out H5.out,N6.out⟩
    ·have HE:=Lib.hid (HE4.out h4)
     rw [Dx h4]
     have H4:=Lib.hid h4
     clear h4
     go_wp2_with fail
     go_ret
     exact ⟨Gr HE.out H4.out,N5.out⟩
theorem AbI (A1:Option Addr) (ps:List Prt) (c1:Nat) (A2:Option Addr) (bs:List Bk) (c2:Nat) (A3:Option Addr) (os:List Int) (c3:Nat) (kind:Int) (A:Option Addr) (args:List Int) (cap:Nat) (vn ve un ue:Int) (m:Nat) (w:World) (h0:¬ kind=0) (h1:¬ kind=1) (h2:¬ kind=2) (h6:¬ kind=6) (h11:¬ kind=11)
  (hk0:¬ AU kind<0) (hk1:((args.length:Nat):Int)=AU kind) (hl:args.length≤1000000) (hl1:ps.length≤1000000) (hl2:bs.length≤1000000) (hm:m≤w.heap.size) (ha:Am w m A (CO args)) (ht:Ax w) :
  Calls Tryz.prog 95 #[.agg #[.slice A1 ps.length c1,.slice A2 bs.length c2,.slice A3 os.length c3],.agg #[.int .i64 kind,.slice A args.length cap,.int .i64 vn,.int .i64 ve,.int .i64 un,.int .i64 ue]] w fun e w'=>e=.returned (GH (BC ps.length bs.length ⟨kind,A,args,cap,vn,ve,un,ue⟩))∧Below w.heap.size w w':=by
 have b0:Below w.heap.size w ((w.alloc (.cells #[.slice A1 ps.length c1,.slice A2 bs.length c2,.slice A3 os.length c3] 26)).alloc (.cells #[.int .i64 kind,.slice A args.length cap,.int .i64 vn,.int .i64 ve,.int .i64 un,.int .i64 ue] 63)):=Aq (al_ _ _) _
 have r0:=(Bh.new_ w [.slice A1 ps.length c1,.slice A2 bs.length c2,.slice A3 os.length c3] 26).call (al_ _ (.cells #[.int .i64 kind,.slice A args.length cap,.int .i64 vn,.int .i64 ve,.int .i64 un,.int .i64 ue] 63))
 have r1:=Bh.new_ (w.alloc (.cells #[.slice A1 ps.length c1,.slice A2 bs.length c2,.slice A3 os.length c3] 26)) [.int .i64 kind,.slice A args.length cap,.int .i64 vn,.int .i64 ve,.int .i64 un,.int .i64 ue] 63
 rw [show (w.alloc (.cells #[.slice A1 ps.length c1,.slice A2 bs.length c2,.slice A3 os.length c3] 26)).heap.size=w.heap.size+1 by simp] at r1
 have HT:=Lib.hid ht
 have HA:=Lib.hid ha
 have HK0:=Lib.hid hk0
 have HK1:=Lib.hid hk1
 obtain ⟨K,hK⟩:∃ K,AU kind=K:=⟨_,rfl⟩
 have HKK:=Lib.hid hK
 have hne:(((args.length:Nat):Int) != K)=false:=by rw [hk1,hK];simp
 have hkk:0≤K:=by omega
 clear ht ha hk0 hk1 hK
 have e0:(kind == 0)=false:=by simpa using h0
 have e1:(kind == 1)=false:=by simpa using h1
 have e2:(kind == 2)=false:=by simpa using h2
 have e6:(kind == 6)=false:=by simpa using h6
 have e11:(kind == 11)=false:=by simpa using h11
 go_enter Tryz.func95,Tryz.ntmps95
 have HM:Hid (Dv ps.length bs.length kind=bs.length):=Lib.hid (if_neg h0)
 have HV:Hid (La kind=false):=Lib.hid (by unfold La;rw [e11,e1,e2,e6];rfl)
 have HU:Hid (EJ kind=false):=Lib.hid (e11)
 clear h0 h1 h2 h6 h11
 go_wp2_with (go_at_call 201;refine (Ea _ _).mono ?_;rintro e w1 ⟨rfl,rfl⟩;rw [HKK.out])
 obtain ⟨W,hW⟩:∃ W,W=((w.alloc (.cells #[.slice A1 ps.length c1,.slice A2 bs.length c2,.slice A3 os.length c3] 26)).alloc (.cells #[.int .i64 kind,.slice A args.length cap,.int .i64 vn,.int .i64 ve,.int .i64 un,.int .i64 ue] 63)):=⟨_,rfl⟩
 rw [←hW]
 rw [←hW] at r0 r1 b0
 have hWs:W.heap.size=w.heap.size+2:=by rw [hW];simp
 clear hW
 have HTW:=Lib.hid (HT.out.below b0 HT.out.1)
 have q0:W.cell? ⟨w.heap.size+1,0,none⟩=some (.int .i64 kind):=r1.cell 0
 have q2:W.cell? ⟨w.heap.size+1,2,none⟩=some (.int .i64 vn):=r1.cell 2
 have q3:W.cell? ⟨w.heap.size+1,3,none⟩=some (.int .i64 ve):=r1.cell 3
 have HB0:=Lib.hid b0
 have R1:=Lib.hid r1
 have HA2:=Lib.hid (HA.out.below b0 hm)
 have hbs1:(W.heap.size:Int)=w.heap.size+2:=by omega
 clear r0 r1 b0
 go_loopw [36] (fun i wr=>Fz args bs.length W i wr) (fun i _=>args.length - (intOf i).toNat)
 case atStart=>exact ⟨0,Nat.zero_le _,rfl,rfl,rfl⟩
 case round =>
  as_aux_lemma =>
   obtain ⟨t,ht,rfl,hf,rfl⟩:=hrel
   have HF:=Lib.hid hf
   clear hf
   by_cases hlt:t<args.length
   ·obtain ⟨ab,ao,z,rfl,hab,hab2,hz,hzc⟩:=HA2.out.int_ hlt
    have HZ:=Lib.hid hz
    clear hz
    by_cases h0:z<0
    ·have hE:=Lib.hid (be3 (np:=ps.length) (nb:=bs.length) (b:=⟨kind,some ⟨ab,ao,none⟩,args,cap,vn,ve,un,ue⟩) (Int.not_lt.2 HK0.out) HK1.out HM.out (CN HZ.out (by omega) HF.out))
     go_wp2_with fail
     go_ret
     exact ⟨Gr (k:=10) hE.out (by decide),HB0.out⟩
    ·have h1:0≤z:=by omega
     clear h0
     by_cases h2:z<(bs.length:Int)
     ·have HZ2:=Lib.hid (Dh HZ.out ⟨h1,h2⟩ HF.out)
      go_wp2_with fail
      all_goals try (exfalso;omega)
      exact ⟨⟨t+1,by omega,by go_num,HZ2.out,rfl⟩,by simp [intOf];omega⟩
     ·have hE:=Lib.hid (be3 (np:=ps.length) (nb:=bs.length) (b:=⟨kind,some ⟨ab,ao,none⟩,args,cap,vn,ve,un,ue⟩) (Int.not_lt.2 HK0.out) HK1.out HM.out (CN HZ.out (by omega) HF.out))
      have h3:(bs.length:Int)≤z:=by omega
      clear h2
      go_wp2_with fail
      all_goals try (exfalso;omega)
      go_ret
      exact ⟨Gr (k:=10) hE.out (by decide),HB0.out⟩
   ·have P1:=Lib.hid (DH (k:=t) (by rw [List.length_map];omega) HF.out)
    clear HF
    have hE4:=fun h=>be4 (np:=ps.length) (nb:=bs.length) (b:=⟨kind,A,args,cap,vn,ve,un,ue⟩) (Int.not_lt.2 HK0.out) HK1.out HM.out P1.out HV.out h
    have hE5:=fun h4 h=>be5 (np:=ps.length) (nb:=bs.length) (b:=⟨kind,A,args,cap,vn,ve,un,ue⟩) (Int.not_lt.2 HK0.out) HK1.out HM.out P1.out HV.out h4 HU.out h
    have hE6:=fun h4 h5 h=>be6 (np:=ps.length) (nb:=bs.length) (b:=⟨kind,A,args,cap,vn,ve,un,ue⟩) (Int.not_lt.2 HK0.out) HK1.out HM.out P1.out HV.out h4 HU.out h5 h
    have hE7:=fun h4 h5 h=>be7 (np:=ps.length) (nb:=bs.length) (b:=⟨kind,A,args,cap,vn,ve,un,ue⟩) (Int.not_lt.2 HK0.out) HK1.out HM.out P1.out HV.out h4 HU.out h5 h
    dsimp only at hE4 hE5 hE6 hE7
    have HE4:=Lib.hid hE4
    have HE5:=Lib.hid hE5
    have HE6:=Lib.hid hE6
    have HE7:=Lib.hid hE7
    clear hE4 hE5 hE6 hE7
    go_wp2_with fail
    go_at_call 202
    refine (Cn vn ve false wr).mono ?_
    rintro e w5 ⟨rfl,hb5⟩
    have N5:=Lib.hid (HB0.out.trans (hb5.mono (by omega)))
    have r5:=R1.out.call hb5
    have HT5:=Lib.hid (HTW.out.below (hb5.mono (B':=1) (by omega)) (by omega))
    have hz5:=hb5.size
    have z5:w.heap.size+1<w5.heap.size:=by omega
    have q4:w5.cell? ⟨w.heap.size+1,4,none⟩=some (.int .i64 un):=r5.cell 4
    have q5:w5.cell? ⟨w.heap.size+1,5,none⟩=some (.int .i64 ue):=r5.cell 5
    have R5:=Lib.hid r5
    clear r5 hb5 q0 q2 q3 hlt hbs1
    by_cases h4:BF vn ve false=0
    ·rw [h4,Dk]
     have H4:=Lib.hid h4
     clear h4
     go_wp2_with fail
     go_at_call 202
     refine (Cn un ue false w5).mono ?_
     rintro e w6 ⟨rfl,hb6⟩
     have N6:=Lib.hid (N5.out.trans (hb6.mono (by omega)))
     have r6:=R5.out.call hb6
     have HT6:=Lib.hid (HT5.out.below (hb6.mono (B':=1) (by omega)) (by omega))
     have hz6:=hb6.size
     have z6:w.heap.size+1<w6.heap.size:=by omega
     have q2:w6.cell? ⟨w.heap.size+1,2,none⟩=some (.int .i64 vn):=r6.cell 2
     have q3:w6.cell? ⟨w.heap.size+1,3,none⟩=some (.int .i64 ve):=r6.cell 3
     have q6:w6.cell? ⟨w.heap.size+1,4,none⟩=some (.int .i64 un):=r6.cell 4
     have q7:w6.cell? ⟨w.heap.size+1,5,none⟩=some (.int .i64 ue):=r6.cell 5
     clear r6 hb6 q4 q5 z5
     by_cases h5:BF un ue false=0
     ·rw [h5,Dk]
      have H5:=Lib.hid h5
      clear h5
      go_wp2_with fail
      go_quiet (fail)
      go_wp2_with fail
      go_ret
      exact ⟨Aae (HE7.out H4.out H5.out (fun h=>by cases h.1)),by repeat (first|exact N6.out|refine ext_drew ?_|refine DW ?_ _)⟩
     ·have HE:=Lib.hid (HE5.out H4.out h5)
      rw [Dx h5]
      have H5:=Lib.hid h5
      clear h5
      go_wp2_with fail
      go_ret
      exact ⟨Gr HE.out H5.out,N6.out⟩
    ·have HE:=Lib.hid (HE4.out h4)
     rw [Dx h4]
     have H4:=Lib.hid h4
     clear h4
     go_wp2_with fail
     go_ret
     exact ⟨Gr HE.out H4.out,N5.out⟩
theorem Wp (d:Dg) (b:Bk) (m:Nat) (w:World) (hm:m≤w.heap.size) (hb:Am w m b.A (CO b.args)) (hl:b.args.length≤1000000) (hl1:d.ps.length≤1000000) (hl2:d.bs.length≤1000000) (ht:Ax w) :
  Calls Tryz.prog 95 #[d.val,b.val] w fun e w'=>e=.returned (GH (BC d.ps.length d.bs.length b))∧Below w.heap.size w w':=by
 by_cases h:0≤AU b.kind∧((b.args.length:Nat):Int)=AU b.kind
 ·obtain ⟨A1,ps,c1,A2,bs,c2,A3,os,c3⟩:=d
  obtain ⟨kind,A,args,cap,vn,ve,un,ue⟩:=b
  dsimp only at h hb hl hl1 hl2
  have hk0:¬ AU kind<0:=by omega
  by_cases h0:kind=0
  ·subst h0;exact AbE A1 ps c1 A2 bs c2 A3 os c3 A args cap vn ve un ue m w hk0 h.2 hl hl1 hl2 hm hb ht
  ·by_cases h1:kind=1
   ·subst h1;exact AbF A1 ps c1 A2 bs c2 A3 os c3 A args cap vn ve un ue m w hk0 h.2 hl hl1 hl2 hm hb ht
   ·by_cases h2:kind=2
    ·subst h2;exact AbG A1 ps c1 A2 bs c2 A3 os c3 A args cap vn ve un ue m w hk0 h.2 hl hl1 hl2 hm hb ht
    ·by_cases h6:kind=6
     ·subst h6;exact AbH A1 ps c1 A2 bs c2 A3 os c3 A args cap vn ve un ue m w hk0 h.2 hl hl1 hl2 hm hb ht
     ·by_cases h11:kind=11
      ·subst h11;exact YN A1 ps c1 A2 bs c2 A3 os c3 A args cap vn ve un ue m w hk0 h.2 hl hl1 hl2 hm hb ht
      ·exact AbI A1 ps c1 A2 bs c2 A3 os c3 kind A args cap vn ve un ue m w h0 h1 h2 h6 h11 hk0 h.2 hl hl1 hl2 hm hb ht
 ·exact Wo d b w h hl
theorem AbJ {p q r:Int} (h:DR ⟨p,q,r⟩=0) : -2147483648≤p∧p≤q∧q<2147483648∧0≤r∧r≤30:=by
 unfold DR at h
 by_cases h2 : -2147483648≤p∧p≤q∧q<2147483648∧0≤r∧r≤30
 ·exact h2
 ·rw [if_neg h2] at h;cases h
theorem YO {p q r:Int} (h:¬ DR ⟨p,q,r⟩=0):DR ⟨p,q,r⟩=3:=by
 unfold DR at h ⊢
 by_cases h2 : -2147483648≤p∧p≤q∧q<2147483648∧0≤r∧r≤30
 ·exact absurd (if_pos h2) h
 ·exact if_neg h2
theorem Ms (d:Dg) (m:Nat) (w:World) (hm:m≤w.heap.size) (hd:Ta w m d) (ht:Ax w) :
    Calls Tryz.prog 35 #[d.val] w fun e w'=>e=.returned (GH (BN d.ps d.bs d.os))∧Below w.heap.size w w':=by
  have hl1:=hd.l1
  have hl2:=hd.l2
  have hl3:=hd.l3
  have HD:=Lib.hid hd
  have HT:=Lib.hid ht
  clear hd ht
  obtain ⟨A1,ps,c1,A2,bs,c2,A3,os,c3⟩:=d
  dsimp only at hl1 hl2 hl3
  simp only [Dg.val]
  by_cases hsz:Ey ps bs os
  · have HSZ:=Lib.hid hsz
    clear hsz
    have l1':(ps.length:Int)≤16:=by have:=HSZ.out.1;omega
    have l2':(bs.length:Int)≤64:=by have:=HSZ.out.2.1;omega
    have l3':(os.length:Int)≤16:=by have:=HSZ.out.2.2;omega
    have r0:=Bh.new_ w [.slice A1 ps.length c1,.slice A2 bs.length c2,.slice A3 os.length c3] 26
    have b0:=al_ w (.cells #[.slice A1 ps.length c1,.slice A2 bs.length c2,.slice A3 os.length c3] 26)
    go_enter Tryz.func35,Tryz.ntmps35
    go_wp2_with fail
    all_goals try (exfalso;omega)
    go_loopw [32] (fun i wr=>Uj w [.slice A1 ps.length c1,.slice A2 bs.length c2,.slice A3 os.length c3] (ps.map DR) i wr) (fun i _=>ps.length - (intOf i).toNat)
    case atStart=>exact ⟨0,Nat.zero_le _,rfl,rfl,r0,b0⟩
    case round =>
      as_aux_lemma =>
        clear r0 b0
        obtain ⟨k,hk,rfl,hf,hbox,hb⟩:=hrel
        have HF:=Lib.hid hf
        have HB:=Lib.hid hbox
        have z0:=hbox.lt
        have q1:wr.cell? ⟨w.heap.size,1,none⟩=some (.slice A2 bs.length c2):=hbox.cell 1
        clear hf hbox
        rw [List.length_map] at hk
        by_cases hlt:k<ps.length
        · obtain ⟨b,off,x,rfl,hbm,hbs,hx,hc⟩:=(HD.out.below hb hm).ps.row (s:=3) (fun _=>rfl) (by omega) hlt
          obtain ⟨plo,phi,pfr⟩:=x
          have g0:wr.cell? ⟨b,off+k*3,none⟩=some (.int .i64 plo):=hc 0 _ rfl
          have g1:=hc 1 _ rfl
          have g2:=hc 2 _ rfl
          dsimp only at g1 g2
          have HX:=Lib.hid hx
          clear hc hx
          by_cases hp:DR ⟨plo,phi,pfr⟩=0
          · have HPE:=Lib.hid hp
            have hp2 : -2147483648≤plo∧plo≤phi∧phi<2147483648∧0≤pfr∧pfr≤30:=AbJ hp
            obtain ⟨p1,p2,p3,p4,p5⟩:=hp2
            clear hp
            go_wp2_with fail
            all_goals try (exfalso;omega)
            exact ⟨⟨k+1,by rw [List.length_map];omega,by go_num,fs1 HX.out HPE.out HF.out,HB.out.call (al_ _ _),Aq hb _⟩,by simp [intOf];omega⟩
          · have h3:DR ⟨plo,phi,pfr⟩=3:=YO hp
            have HE:=Lib.hid (de1 HSZ.out (pe1 (bs:=bs) (os:=os) HX.out h3 (by decide) HF.out) (by decide))
            have hp2:¬ (-2147483648≤plo∧plo≤phi∧phi<2147483648∧0≤pfr∧pfr≤30):=fun h=>hp (if_pos h)
            have HP2:=Lib.hid hp2
            clear hp h3 hp2
            go_wp2_with fail
            all_goals first
              | (go_ret
                 exact ⟨Gr (k:=3) (HE.out) (by decide),Aq hb _⟩)
              | (exfalso;exact HP2.out ⟨by omega,by omega,by omega,by omega,by omega⟩)
        · have P1:=Lib.hid (DH (k:=k) (by rw [List.length_map];omega) HF.out)
          clear HF
          go_wp2_with fail
          clear q1 hk hlt
          obtain ⟨w2,hw2⟩:∃ w2,w2=wr:=⟨_,rfl⟩
          rw [←hw2] at HB hb
          rw [←hw2]
          clear hw2 z0
          go_loopw [66] (fun i wr=>Uj w [.slice A1 ps.length c1,.slice A2 bs.length c2,.slice A3 os.length c3] (bs.map (BC ps.length bs.length)) i wr) (fun i _=>bs.length - (intOf i).toNat)
          case atStart=>exact ⟨0,Nat.zero_le _,rfl,rfl,HB.out,hb⟩
          case round =>
            as_aux_lemma =>
              clear HB hb
              obtain ⟨k,hk,rfl,hf,hbox,hb⟩:=hrel
              have HF:=Lib.hid hf
              have HB:=Lib.hid hbox
              have z0:=hbox.lt
              have q0:wr.cell? ⟨w.heap.size,0,none⟩=some (.slice A1 ps.length c1):=hbox.cell 0
              have q1:wr.cell? ⟨w.heap.size,1,none⟩=some (.slice A2 bs.length c2):=hbox.cell 1
              have q2:wr.cell? ⟨w.heap.size,2,none⟩=some (.slice A3 os.length c3):=hbox.cell 2
              clear hf hbox
              rw [List.length_map] at hk
              by_cases hlt:k<bs.length
              · obtain ⟨b,off,kind,KA,args,cap,vn,ve,un,ue,hA,hbm,hbs,hx,g0,g1,g2,g3,g4,g5,ha,hal⟩:=(HD.out.below hb hm).blk hlt
                dsimp only at hA hx
                subst hA
                have HX:=Lib.hid hx
                have HA:=Lib.hid ha
                clear hx ha
                go_wp2_with fail
                go_at_call 95
                refine (Wp ⟨A1,ps,c1,some ⟨b,off,none⟩,bs,c2,A3,os,c3⟩ ⟨kind,KA,args,cap,vn,ve,un,ue⟩ m _ (by have:=hb.size;simp;omega) (HA.out.below (al_ _ _) (by have:=hb.size;omega)) hal hl1 hl2 ((HT.out.below hb HT.out.1).below (al_ _ _) (HT.out.below hb HT.out.1).1)).mono ?_
                rintro e w5 ⟨rfl,hb5⟩
                dsimp only at hb5 ⊢
                have HB5:=Lib.hid ((HB.out.call (al_ _ _)).call hb5)
                have N5:=Lib.hid ((Aq hb (.cells #[.int .i64 kind,.slice KA args.length cap,.int .i64 vn,.int .i64 ve,.int .i64 un,.int .i64 ue] 63)).trans (hb5.mono (by have:=hb.size;simp;omega)))
                clear hb5 g0 g1 g2 g3 g4 g5 q0 q1 q2
                obtain ⟨E,hE⟩:∃ E,BC ps.length bs.length ⟨kind,KA,args,cap,vn,ve,un,ue⟩=E:=⟨_,rfl⟩
                have HEE:=Lib.hid hE
                rw [hE]
                clear hE
                by_cases he0:E=0
                · have HE0:=Lib.hid (HEE.out.trans he0)
                  rw [he0,Dk]
                  clear he0
                  go_wp2_with fail
                  exact ⟨⟨k+1,by rw [List.length_map];omega,by go_num,fs1 HX.out HE0.out HF.out,HB5.out,N5.out⟩,by simp [intOf];omega⟩
                · have HE:=Lib.hid (de1 HSZ.out (pe2 (os:=os) P1.out HX.out HEE.out he0 HF.out) he0)
                  rw [Dx he0]
                  have HE0:=Lib.hid he0
                  clear he0
                  go_wp2_with fail
                  go_ret
                  exact ⟨Gr HE.out HE0.out,N5.out⟩
              · have P2:=Lib.hid (DH (k:=k) (by rw [List.length_map];omega) HF.out)
                clear HF
                go_wp2_with fail
                clear q0 q1 q2 hk hlt
                obtain ⟨w3,hw3⟩:∃ w3,w3=wr:=⟨_,rfl⟩
                rw [←hw3] at HB hb
                rw [←hw3]
                clear hw3 z0
                go_loopw [80] (fun i wr=>Uj w [.slice A1 ps.length c1,.slice A2 bs.length c2,.slice A3 os.length c3] (os.map (Lo bs.length)) i wr) (fun i _=>os.length - (intOf i).toNat)
                case atStart=>exact ⟨0,Nat.zero_le _,rfl,rfl,HB.out,hb⟩
                case round =>
                  as_aux_lemma =>
                    clear HB hb
                    obtain ⟨k,hk,rfl,hf,hbox,hb⟩:=hrel
                    have HF:=Lib.hid hf
                    have HB:=Lib.hid hbox
                    have z0:=hbox.lt
                    have q0:wr.cell? ⟨w.heap.size,0,none⟩=some (.slice A1 ps.length c1):=hbox.cell 0
                    have q1:wr.cell? ⟨w.heap.size,1,none⟩=some (.slice A2 bs.length c2):=hbox.cell 1
                    have q2:wr.cell? ⟨w.heap.size,2,none⟩=some (.slice A3 os.length c3):=hbox.cell 2
                    clear hf hbox
                    rw [List.length_map] at hk
                    by_cases hlt:k<os.length
                    · obtain ⟨b,off,z,rfl,hbm,hbs,hx,hc⟩:=(HD.out.below hb hm).os.int_ hlt
                      have HX:=Lib.hid hx
                      clear hx
                      by_cases ho:0≤z∧z<(bs.length:Int)
                      · have HOE := Lib.hid (show Lo bs.length z = 0 from if_pos ho)
                        obtain ⟨o1,o2⟩:=ho
                        go_wp2_with fail
                        all_goals try (exfalso;omega)
                        exact ⟨⟨k+1,by rw [List.length_map];omega,by go_num,fs1 HX.out HOE.out HF.out,HB.out,hb⟩,by simp [intOf];omega⟩
                      · have HE:=Lib.hid (de1 HSZ.out (pe3 P1.out P2.out HX.out (if_neg ho) (by decide) HF.out) (by decide))
                        have HO:=Lib.hid ho
                        clear ho
                        go_wp2_with fail
                        all_goals first
                          | (go_ret
                             exact ⟨Gr (k:=10) (HE.out) (by decide),hb⟩)
                          | (exfalso;exact HO.out ⟨by omega,by omega⟩)
                    · have P3:=Lib.hid (DH (k:=k) (by rw [List.length_map];omega) HF.out)
                      have HE:=Lib.hid (de2 HSZ.out (pe4 P1.out P2.out P3.out))
                      have HSO:=Lib.hid (Rl P2.out)
                      clear HF
                      go_wp2_with fail
                      obtain ⟨w4,hw4⟩:∃ w4,w4=wr:=⟨_,rfl⟩
                      rw [←hw4] at z0 q0 q1 q2 hb
                      rw [←hw4]
                      have HB4:=Lib.hid hb
                      clear hw4 HB hb hlt hk
                      go_at_call 96
                      refine (Qd ⟨A1,ps,c1,A2,bs,c2,A3,os,c3⟩ m w4 (by have:=HB4.out.size;omega) (HD.out.below HB4.out hm) HSO.out).mono ?_
                      rintro e w7 ⟨v7,rfl,_,hb7⟩
                      dsimp only
                      go_wp2_with fail
                      go_ret
                      exact ⟨by rw [HE.out];rfl,HB4.out.trans (hb7.mono HB4.out.size)⟩
  · have HE:=Lib.hid (de0 hsz)
    have b0:=al_ w (.cells #[.slice A1 ps.length c1,.slice A2 bs.length c2,.slice A3 os.length c3] 26)
    have key:16<(ps.length:Int)∨((ps.length:Int)≤16∧64<(bs.length:Int))∨((ps.length:Int)≤16∧(bs.length:Int)≤64∧16<(os.length:Int)):=by
      unfold Ey at hsz
      omega
    clear hsz
    rcases key with k1|⟨k1,k2⟩|⟨k1,k2,k3⟩
    all_goals
      go_enter Tryz.func35,Tryz.ntmps35
      go_wp2_with fail
      all_goals try (exfalso;omega)
      go_ret
      exact ⟨Gr (k:=4) (HE.out) (by decide),b0⟩
def Agc (bs:List Bk) (i:Nat):List Bool:=(List.replicate bs.length false).set i true
def Agd (bs:List Bk) (i:Nat):List Int:=Cs (AfW (SR bs false bs.length (Agc bs i)))
def Aek (ps:List Prt) (bs:List Bk) (os:List Int) (i:Int):Int:=if ¬ BN ps bs os=0 then BN ps bs os else if 0≤i∧i<(bs.length:Int) then 0 else 10
def Age (ps:List Prt) (bs:List Bk) (os:List Int) (i:Int):List Int:=if Aek ps bs os i=0 then Agd bs i.toNat else []
def UsesP (ps:List Prt) (bs:List Bk) (os:List Int) (i:Int) (w:World) (e:Ending) (w':World):Prop :=
 ∃ v,e=.returned (.tuple #[v,GH (Aek ps bs os i)])∧Ej w' w.heap.size v (Age ps bs os i)∧Below w.heap.size w w'
theorem Te {ps:List Prt} {bs:List Bk} {os:List Int} (h:BN ps bs os=0):Ey ps bs os∧DJ ps bs os=0∧Fy bs=0:=by
 unfold BN at h
 by_cases h1:Ey ps bs os
 ·rw [if_neg (not_not_intro h1)] at h
  by_cases h2:DJ ps bs os=0
  ·rw [if_neg (not_not_intro h2)] at h
   exact ⟨h1,h2,h⟩
  ·rw [if_pos h2] at h
   exact absurd h h2
 ·rw [if_pos h1] at h;cases h
theorem Wq {ps:List Prt} {bs:List Bk} {os:List Int} (h:DJ ps bs os=0):AH (bs.map (BC ps.length bs.length))=0:=by
 unfold DJ at h
 rw [Bx] at h
 by_cases h1:AH (ps.map DR)=0
 ·rw [if_pos h1,Bx] at h
  by_cases h2:AH (bs.map (BC ps.length bs.length))=0
  ·exact h2
  ·rw [if_neg h2] at h;exact h
 ·rw [if_neg h1] at h;exact absurd h h1
theorem AbK {ps:List Prt} {bs:List Bk} {os:List Int} (h:BN ps bs os=0):SQ bs:=Rl (Wq (Te h).2.1)
end Go.Proofs.YtmdfjbpggbhgnaaGreatDoor
namespace Go.Proofs.YtmdfjbpggbhgnaaGreatDoor
open Go.RowKit
def isB (n k:Int):Bool:=decide (n≠0∧n=k)
/- The example, its lists in the blocks from n. -/
def exBs (n:Nat) (k:Int):List Bk:=[⟨0,some ⟨n+1+1,0,none⟩,[0],1,0,0,0,0⟩,⟨3,some ⟨n+1+1+1,0,none⟩,[0,2],2,0,0,0,0⟩,⟨k,some ⟨n+1+1+1+1,0,none⟩,[1],1,0,0,0,0⟩]
def exDg (n:Nat) (k:Int):Dg:=⟨some ⟨n,0,none⟩,[⟨-8,8,0⟩],1,some ⟨n+1+1+1+1+1,0,none⟩,exBs n k,3,some ⟨n+1,0,none⟩,[1],1⟩
structure ExAt (w:World) (n:Nat) (k:Int):Prop where
 h1:Bh w n (Hb Prt.cells [⟨-8,8,0⟩]) 81
 h2:Bh w (n+1) (CO [1]) 3
 h3:Bh w (n+1+1) (CO [0]) 3
 h4:Bh w (n+1+1+1) (CO [0,2]) 3
 h5:Bh w (n+1+1+1+1) (CO [1]) 3
 h6:Bh w (n+1+1+1+1+1) (Hb Bk.cells (exBs n k)) 63
def ExP (w:World) (e:Ending) (w':World):Prop:=∃ n,w.heap.size≤n∧e=.returned (exDg n 2).val∧ExAt w' n 2∧Below w.heap.size w w'
theorem Bh.al {w:World} {b t:Nat} {vs:List Value} (h:Bh w b vs t) (o:Obj):Bh (w.alloc o) b vs t:=h.call (al_ w o)
end Go.Proofs.YtmdfjbpggbhgnaaGreatDoor
namespace Go.Proofs.YtmdfjbpggbhgnaaGreatDoor
open Go.ChangeShapes Go.WideShapes Go.ChangeAt Go.RowKit Go.Joins Go.Deep
set_option maxRecDepth 100000
def UR (z:Int):Prop := -9223372036854775808≤z∧z≤9223372036854775807
def Ael (zs:List Int):Prt:=⟨zs.getD 0 0,zs.getD 1 0,zs.getD 2 0⟩
theorem Rm (zs:List Int) (h:zs.length=3):(Ael zs).cells=CO zs:=by
 match zs,h with
 | [_,_,_],_=>rfl
theorem Nx {fs:Array Field} (h:fs.all (fun f=>f.type == 3)=true):∀ (i:Nat) (f:Field),fs[i]?=some f→Tryz.prog.underlying f.type=some (.int .i64):=by
 intro i f hf
 have hi:=(Array.getElem?_eq_some_iff.1 hf)
 have:=Array.all_eq_true.1 h i hi.1
 rw [hi.2] at this
 have e:f.type=3:=by simpa using this
 rw [e]
 exact Tryz.underlying3
section
variable {H:Type} {enc:TypeId × Value→H} {w:World} {spare:Nat→Bool} {held:Bool}
def bkB (x:Bk):Prop:=UR x.kind∧UR x.vn∧UR x.ve∧UR x.un∧UR x.ue
theorem Ny {fuel:Nat} {cs:List Value} {x:DataW H × List MemPlace} (h:DataW.trod enc Tryz.prog w 0 spare held fuel 61 cs=some x):∃ n e:Int,cs=[.int .i64 n,.int .i64 e]∧UR n∧UR e:=by
 obtain ⟨zs,rfl,hl,hz⟩:=Tc Tryz.underlying61 (by kernel_rfl) (Nx (by kernel_rfl)) (by kernel_rfl) h
 match zs,hl with
 | [n,e],_=>exact ⟨n,e,rfl,hz _ (by simp),hz _ (by simp)⟩
theorem AbL {fuel:Nat} {cs:List Value} {x:DataW H × List MemPlace} (h:DataW.trod enc Tryz.prog w 0 spare held fuel 63 cs=some x) :
  ∃ b:Bk,cs=b.cells∧(b.A=none→b.cap=0)∧b.args.length≤b.cap∧b.args.length≤maxLen∧Am w w.heap.size b.A (CO b.args)∧(∀ z∈b.args,UR z)∧bkB b:=by
 obtain ⟨xs,n,_,_,hlen,hxl,hg⟩:=DataW.trod_struct Tryz.underlying63 h
 have hl6:cs.length=6:=hlen.trans (by kernel_rfl)
 match cs,hl6 with
 | [c0,c1,c2,c3,c4,c5],_ =>
  have k1:Tryz.prog.cellsOf 3=1:=by kernel_rfl
  have k2:Tryz.prog.cellsOf 24=1:=by kernel_rfl
  have k3:Tryz.prog.cellsOf 61=2:=by kernel_rfl
  have hx4:xs.length=4:=hxl
  match xs,hx4 with
  | [x0,x1,x2,x3],_ =>
   have g0:DataW.trod enc Tryz.prog w 0 spare held n 3 (([c0,c1,c2,c3,c4,c5].drop 0).take (Tryz.prog.cellsOf 3))=some x0:=hg 0 _ rfl
   have g1:DataW.trod enc Tryz.prog w 0 spare held n 24 (([c0,c1,c2,c3,c4,c5].drop 1).take (Tryz.prog.cellsOf 24))=some x1:=hg 1 _ rfl
   have g2:DataW.trod enc Tryz.prog w 0 spare held n 61 (([c0,c1,c2,c3,c4,c5].drop 2).take (Tryz.prog.cellsOf 61))=some x2:=hg 2 _ rfl
   have g3:DataW.trod enc Tryz.prog w 0 spare held n 61 (([c0,c1,c2,c3,c4,c5].drop 4).take (Tryz.prog.cellsOf 61))=some x3:=hg 3 _ rfl
   rw [k1] at g0
   rw [k2] at g1
   rw [k3] at g2 g3
   obtain ⟨kind,hk,_,hkb⟩:=DataW.trod_int Tryz.underlying3 g0
   obtain ⟨A,cap,args,ha,hA0,hc1,hc2,hc3,hc4⟩:=Fj Tryz.underlying24 Tryz.underlying3 (by kernel_rfl) g1
   obtain ⟨vn,ve,hv,b1,b2⟩:=Ny g2
   obtain ⟨un,ue,hu,b3,b4⟩:=Ny g3
   refine ⟨⟨kind,A,args,cap,vn,ve,un,ue⟩,?_,hA0,hc1,hc2,hc3,hc4,bounds_i64 hkb,b1,b2,b3,b4⟩
   have e0:[c0]=[Value.int .i64 kind]:=hk
   have e2:[c2,c3]=[Value.int .i64 vn,Value.int .i64 ve]:=hv
   have e3:[c4,c5]=[Value.int .i64 un,Value.int .i64 ue]:=hu
   simp only [List.cons.injEq,and_true] at e0 e2 e3
   rw [e0,ha,e2.1,e2.2,e3.1,e3.2]
   rfl
structure DgIn (w:World) (d:Dg):Prop where
 ps:Am w w.heap.size d.A1 (Hb Prt.cells d.ps)
 bs:Am w w.heap.size d.A2 (Hb Bk.cells d.bs)
 os:Am w w.heap.size d.A3 (CO d.os)
 args:∀ b∈d.bs,Am w w.heap.size b.A (CO b.args)
 l1:d.ps.length≤maxLen
 l2:d.bs.length≤maxLen
 l3:d.os.length≤maxLen
 l4:∀ b∈d.bs,b.args.length≤maxLen
 k4:∀ b∈d.bs,b.args.length≤b.cap
 bb:∀ b∈d.bs,bkB b
 ba:∀ b∈d.bs,∀ z∈b.args,UR z
 bo:∀ z∈d.os,UR z
 n1:d.A1=none→d.c1=0
 n3:d.A3=none→d.c3=0
 n4:∀ b∈d.bs,b.A=none→b.cap=0
instance:Inhabited Bk:=⟨bk0⟩
theorem Qe {fuel:Nat} {v:Value} {x:DataW H × List MemPlace} (h:DataW.trod enc Tryz.prog w 0 spare held fuel 23 [v]=some x) :
  ∃ (A:Option Addr) (cap:Nat) (l:List Bk),v=.slice A l.length cap∧l.length≤maxLen∧Am w w.heap.size A (Hb Bk.cells l) ∧
   ∀ b∈l,(b.A=none→b.cap=0)∧b.args.length≤b.cap∧b.args.length≤maxLen∧Am w w.heap.size b.A (CO b.args)∧(∀ z∈b.args,UR z)∧bkB b:=by
 rcases open_slice Tryz.underlying23 h with ⟨hcs,_⟩|⟨a,len,cap,m,n,D,Pl,hcs,_,hl,hm,hmm,_,hx⟩
 ·exact ⟨none,0,[],by simpa using hcs,Nat.zero_le _,Am.nil_,by simp⟩
 ·have hle:len≤m:=by rw [hmm];split <;> omega
  rw [show Tryz.prog.cellsOf 63=6 by kernel_rfl] at hx
  obtain ⟨R,hR⟩:=choose_lt (α:=Bk) (n:=len) (p:=fun i b=>((b.A=none→b.cap=0)∧b.args.length≤b.cap∧b.args.length≤maxLen∧Am w w.heap.size b.A (CO b.args)∧(∀ z∈b.args,UR z)∧bkB b)∧∀ j,j<6→w.cell? (a.add (i*6+j))=b.cells[j]?) (fun i hi=>by
   obtain ⟨cs',h1,h2⟩:=hx i (by omega)
   obtain ⟨b,rfl,hb⟩:=AbL h2
   obtain ⟨_,hlen,hcell⟩:=World.cells?_some h1
   exact ⟨b,hb,fun j hj=>by rw [←add_add];exact hcell j hj⟩)
  refine ⟨some a,cap,(List.range len).map R,by simpa using hcs,by simp;omega,fun hne=>?_,?_⟩
  ·have hpos:0<len:=by
    rcases Nat.eq_zero_or_pos len with h0|h0
    ·subst h0;simp [Hb] at hne
    ·exact h0
   obtain ⟨b,off,spot⟩:=a
   have h00:=(hR 0 hpos).2 0 (by decide)
   have hz0:(R 0).cells[0]?=some (.int .i64 (R 0).kind):=rfl
   rw [hz0] at h00
   have hspot:spot=none:=by simpa [Addr.add] using World.cell?_spot h00
   subst hspot
   have hb:b<w.heap.size:=by
    rcases Nat.lt_or_ge b w.heap.size with h|h
    ·exact h
    ·simp [World.cell?,Addr.add,Array.getElem?_eq_none h] at h00
   refine ⟨b,off,rfl,hb,hb,fun j u hu=>?_⟩
   have hjl:j<len*6:=by
    have:=(List.getElem?_eq_some_iff.1 hu).1
    rw [Oo (s:=6) (fun _=>rfl)] at this
    simpa using this
   have hk:j / 6<len:=Nat.div_lt_of_lt_mul (by rw [Nat.mul_comm];exact hjl)
   have hr:j % 6<6:=Nat.mod_lt _ (by decide)
   have hj:j / 6*6+j % 6=j:=by rw [Nat.mul_comm];exact Nat.div_add_mod j 6
   have hg:((List.range len).map R)[j / 6]?=some (R (j / 6)):=by simp [hk]
   have h1:=Gd (f:=Bk.cells) (s:=6) (fun _=>rfl) hg hr
   rw [hj,hu] at h1
   have h2:=(hR _ hk).2 (j % 6) hr
   rw [hj,←h1] at h2
   rw [←Go.WideShapes.add_plain]
   exact h2
  ·intro y hy
   obtain ⟨i,hi,rfl⟩:=List.mem_map.1 hy
   exact (hR i (by simpa using hi)).1
end
end Go.Proofs.YtmdfjbpggbhgnaaGreatDoor
namespace Go.Proofs.YtmdfjbpggbhgnaaGreatDoor
open Go.RowKit
def Aem (xs:List Int) (er:Int) (w:World) (e:Ending) (w':World):Prop:=∃ v,e=.returned (.tuple #[v,GH er])∧Ej w' w.heap.size v xs∧Below w.heap.size w w'
def Afk (d:Dg):List Int:=if BN d.ps d.bs d.os=0 then Cs (Dc d.bs) else []
def Afl (d:Dg):List Int:=if BN d.ps d.bs d.os=0 then Cs (CA d.bs) else []
def dgE (d:Dg):Int:=BN d.ps d.bs d.os
theorem Wr (d:Dg) (m:Nat) (w:World) (hm:m≤w.heap.size) (hd:Ta w m d) (ht:Ax w) :
  Calls Tryz.prog 60 #[d.val] w (Aem (Afk d) (dgE d) w):=by
 have hl2:=hd.l2
 have HD:=Lib.hid hd
 have HT:=Lib.hid ht
 clear hd ht
 obtain ⟨A1,ps,c1,A2,bs,c2,A3,os,c3⟩:=d
 dsimp only at hl2
 simp only [Dg.val]
 have b0:=al_ w (.cells #[.slice A1 ps.length c1,.slice A2 bs.length c2,.slice A3 os.length c3] 26)
 have r0:=Bh.new_ w [.slice A1 ps.length c1,.slice A2 bs.length c2,.slice A3 os.length c3] 26
 have HB0:=Lib.hid b0
 have R0:=Lib.hid r0
 clear b0 r0
 obtain ⟨E,hE⟩:∃ E,BN ps bs os=E:=⟨_,rfl⟩
 have HE:=Lib.hid hE
 clear hE
 go_enter Tryz.func60,Tryz.ntmps60
 go_wp2_with fail
 go_at_call 35
 refine (Ms ⟨A1,ps,c1,A2,bs,c2,A3,os,c3⟩ m _ (by simp;omega) (HD.out.below HB0.out hm) (HT.out.below HB0.out HT.out.1)).mono ?_
 rintro e w1 ⟨rfl,hb1⟩
 dsimp only
 rw [HE.out]
 have R1:=Lib.hid (R0.out.call hb1)
 have N1:=Lib.hid (HB0.out.trans (hb1.mono HB0.out.size))
 have z1:w.heap.size<w1.heap.size:=R1.out.lt
 have q0:w1.cell? ⟨w.heap.size,0,none⟩=some (.slice A1 ps.length c1):=R1.out.cell 0
 have q1:w1.cell? ⟨w.heap.size,1,none⟩=some (.slice A2 bs.length c2):=R1.out.cell 1
 have q2:w1.cell? ⟨w.heap.size,2,none⟩=some (.slice A3 os.length c3):=R1.out.cell 2
 clear hb1
 by_cases he:E=0
 ·have HE0:=Lib.hid (HE.out.trans he)
  rw [he,Dk]
  clear he
  have HO:=Lib.hid (show Afk ⟨A1,ps,c1,A2,bs,c2,A3,os,c3⟩=Cs (Dc bs) from if_pos HE0.out)
  go_wp2_with fail
  go_at_call 96
  refine (Qd ⟨A1,ps,c1,A2,bs,c2,A3,os,c3⟩ m w1 (by omega) (HD.out.below N1.out hm) (AbK HE0.out)).mono ?_
  rintro e w2 ⟨v,rfl,hown,hb2⟩
  have h0:=(Te HE0.out).2.2
  have hx:AbD bs=Cs (Dc bs):=by unfold AbD;rw [if_pos h0]
  dsimp only at hown
  rw [hx] at hown
  dsimp only
  rw [h0,Dk]
  have HW:=Lib.hid hown
  have N2:=Lib.hid (N1.out.trans (hb2.mono N1.out.size))
  clear hown hb2 hx h0 q0 q1 q2
  go_wp2_with fail
  refine bodyPost_ret (v:=.tuple #[v,.nilIface]) (by simp [results,Tryz.results60,go_sem]) rfl ⟨v,by show _=Ending.returned (.tuple #[v,GH (BN ps bs os)]);rw [HE0.out,Dk],?_,N2.out⟩
  rw [HO.out]
  exact HW.out.base_ (by omega)
 ·have HO:=Lib.hid (show Afk ⟨A1,ps,c1,A2,bs,c2,A3,os,c3⟩=[] from if_neg (by rw [HE.out];exact he))
  have HEN:=Lib.hid (Dx he)
  clear he
  rw [HEN.out]
  go_wp2_with fail
  refine bodyPost_ret (v:=.tuple #[.slice none 0 0,.iface 109 (.int .i64 E)]) (by simp [results,Tryz.results60,go_sem]) rfl ⟨_,by show _=Ending.returned (.tuple #[_,GH (BN ps bs os)]);rw [HE.out,HEN.out],by rw [HO.out];exact Ej.nil_ _ _,N1.out⟩
def Agf (w:World) (vs:List Value) (bs:List Bk) (v i:Value) (wr:World):Prop:=∃ k:Nat,k≤bs.length∧i=.int .i64 k∧Ej wr (w.heap.size+1) v (Cs (fl (Ex bs) k))∧Bh wr w.heap.size vs 26∧Below w.heap.size w wr
theorem Uk (d:Dg) (m:Nat) (w:World) (hm:m≤w.heap.size) (hd:Ta w m d) (ht:Ax w) :
  Calls Tryz.prog 19 #[d.val] w (Aem (Afl d) (dgE d) w):=by
 have hl2:=hd.l2
 have HD:=Lib.hid hd
 have HT:=Lib.hid ht
 clear hd ht
 obtain ⟨A1,ps,c1,A2,bs,c2,A3,os,c3⟩:=d
 dsimp only at hl2
 simp only [Dg.val]
 have b0:=al_ w (.cells #[.slice A1 ps.length c1,.slice A2 bs.length c2,.slice A3 os.length c3] 26)
 have r0:=Bh.new_ w [.slice A1 ps.length c1,.slice A2 bs.length c2,.slice A3 os.length c3] 26
 have HB0:=Lib.hid b0
 have R0:=Lib.hid r0
 clear b0 r0
 obtain ⟨E,hE⟩:∃ E,BN ps bs os=E:=⟨_,rfl⟩
 have HE:=Lib.hid hE
 clear hE
 go_enter Tryz.func19,Tryz.ntmps19
 go_wp2_with fail
 go_at_call 35
 refine (Ms ⟨A1,ps,c1,A2,bs,c2,A3,os,c3⟩ m _ (by simp;omega) (HD.out.below HB0.out hm) (HT.out.below HB0.out HT.out.1)).mono ?_
 rintro e w1 ⟨rfl,hb1⟩
 dsimp only
 rw [HE.out]
 have R1:=Lib.hid (R0.out.call hb1)
 have N1:=Lib.hid (HB0.out.trans (hb1.mono HB0.out.size))
 have z1:w.heap.size<w1.heap.size:=R1.out.lt
 have q1:w1.cell? ⟨w.heap.size,1,none⟩=some (.slice A2 bs.length c2):=R1.out.cell 1
 clear hb1
 by_cases he:E=0
 ·have HE0:=Lib.hid (HE.out.trans he)
  rw [he,Dk]
  clear he
  have HO:=Lib.hid (show Afl ⟨A1,ps,c1,A2,bs,c2,A3,os,c3⟩=Cs (CA bs) from if_pos HE0.out)
  go_wp2_with fail
  clear q1 z1
  go_loopw [5,16] (fun v i wr=>Agf w [.slice A1 ps.length c1,.slice A2 bs.length c2,.slice A3 os.length c3] bs v i wr) (fun _ i _=>bs.length - (intOf i).toNat)
  case atStart=>exact ⟨0,Nat.zero_le _,rfl,Ej.nil_ _ _,R1.out,N1.out⟩
  case round =>
   clear R1 N1
   obtain ⟨k,hk,rfl,hown,hbox,hb⟩:=hrel
   have HO2:=Lib.hid hown
   have HB2:=Lib.hid hbox
   have hbl:=hbox.lt
   clear hown hbox
   by_cases hlt:k<bs.length
   ·obtain ⟨b,off,kind,A,args,cap,vn,ve,un,ue,hA,hbm,hbs,hx,g0,g1,g2,g3,g4,g5,ha,hl⟩:=(HD.out.below hb hm).blk hlt
    dsimp only at hA hx
    subst hA
    clear ha hl
    have HX:=Lib.hid (Il hx)
    dsimp only at HX
    clear hx
    have hbz:=hb.size
    by_cases k2:kind=2
    ·subst k2
     have HP:Ex bs k=true:=by unfold Ex;rw [HX.out];rfl
     have HP:=Lib.hid HP
     go_wp2_with (at_builtin;refine Hl rfl _ _ rfl (w.heap.size+1) _ (Cs (fl (Ex bs) k)) (k:Int) (wr.heap.size+1) rfl ((HO2.out.alloc _).alloc _) rfl (by simp [go_sem]) (by have:=AbB (Ex bs) k;simp [Cs];omega) (by simp;omega) ?_;intro v' w4 hown hg hb4)
     have hst:Below w.heap.size wr w4:=(((Below.refl _ wr).alloc hbz _).alloc (by simp;omega) _).trans (hb4.mono (by omega))
     have hr4:=((HB2.out.al _).al _).below hb4 (by omega)
     exact ⟨⟨k+1,by omega,by go_num,by rw [Wc HP.out];simpa [Cs] using hown,hr4,hb.trans hst⟩,by simp [intOf];omega⟩
    ·have HP:Ex bs k=false:=by unfold Ex;rw [HX.out];simpa using k2
     have HP:=Lib.hid HP
     have n2:(kind == 2)=false:=by simpa using k2
     clear k2
     go_wp2_with fail
     exact ⟨⟨k+1,by omega,by go_num,by rw [AbA HP.out];exact HO2.out.alloc _,HB2.out.al _,Aq hb _⟩,by simp [intOf];omega⟩
   ·go_wp2_with fail
    have e:k=bs.length:=by omega
    subst e
    obtain ⟨A',c',hv,_⟩:=HO2.out.view
    subst hv
    refine bodyPost_ret (v:=.tuple #[.slice A' (Cs (fl (Ex bs) bs.length)).length c',.nilIface]) (by simp [results,Tryz.results19,go_sem]) rfl ⟨_,by show _=Ending.returned (.tuple #[_,GH (BN ps bs os)]);rw [HE0.out,Dk],?_,hb⟩
    rw [HO.out]
    exact HO2.out.base_ (by omega)
 ·have HO:=Lib.hid (show Afl ⟨A1,ps,c1,A2,bs,c2,A3,os,c3⟩=[] from if_neg (by rw [HE.out];exact he))
  have HEN:=Lib.hid (Dx he)
  clear he
  rw [HEN.out]
  go_wp2_with fail
  refine bodyPost_ret (v:=.tuple #[.slice none 0 0,.iface 109 (.int .i64 E)]) (by simp [results,Tryz.results19,go_sem]) rfl ⟨_,by show _=Ending.returned (.tuple #[_,GH (BN ps bs os)]);rw [HE.out,HEN.out],by rw [HO.out];exact Ej.nil_ _ _,N1.out⟩
/- Light. -/
def lightG (d:Dg):Bool:=decide (d.ps.length≤40∧d.bs.length≤80∧d.os.length≤40) && d.bs.all fun b=>decide (b.args.length≤10)
def lgRel (w:World) (bs:List Bk) (vs:List Value) (i:Value) (wr:World):Prop:=∃ k:Nat,k≤bs.length∧i=.int .i64 k∧(bs.take k).all (fun b=>decide (b.args.length≤10))=true∧Bh wr w.heap.size vs 26∧Below w.heap.size w wr
theorem Hp {α:Type} {p:α→Bool} {l:List α} {k:Nat} {x:α} (hx:l[k]?=some x) (h:(l.take k).all p=true) (hp:p x=true):(l.take (k+1)).all p=true:=by
 rw [List.take_add_one,hx,List.all_append,h]
 simp [hp]
end Go.Proofs.YtmdfjbpggbhgnaaGreatDoor
namespace Go.Proofs.YtmdfjbpggbhgnaaGreatDoor
open Go.RowKit
theorem Lp {w:World} {S:Eu} {vs xs:List Value} (h:Bv (BE w S) (vs.map .val) xs):xs=vs:=by
 induction vs generalizing xs with
 | nil=>exact h.unnil
 | cons v vs ih =>
  obtain ⟨x,xs',rfl,h1,h2⟩:=(show Bv (BE w S) (D.val v::vs.map .val) xs from h).uncons
  cases h1
  rw [ih h2]
theorem Hq {w:World} {S:Eu} {vs:List Value} (h:∀ v∈vs,v.oneCell'=true):Bv (BE w S) (vs.map .val) vs :=
 ⟨by simp,fun j d v hd hv=>by
  simp only [List.getElem?_map,hv,Option.map_some,Option.some.injEq] at hd
  subst hd
  exact .val (h v (List.mem_of_getElem? hv))⟩
theorem Tf {w:World} {S:Eu} (hlt:∀ t b,S t b→b<w.heap.size) {t:Bool} {s n:Nat} {cs:List D} {v:Value} (h:BE w S (.row t s n cs) v) :
  ∃ A c xs,v=.slice A n c∧(A=none→c=0)∧n≤c∧cs.length=n*s∧Bv (BE w S) cs xs∧Am w w.heap.size A xs:=by
 cases h with
 | @row _ _ _ c _ A xs hc hA hl hx hm hr =>
  refine ⟨A,c,xs,rfl,hA,hc,hl,⟨hx,hr⟩,fun hne=>?_⟩
  obtain ⟨b,off,h1,h2,h3⟩:=hm (fun h0=>hne (by rw [h0] at hx;exact List.eq_nil_of_length_eq_zero (by simpa using hx.symm)))
  exact ⟨b,off,h1,hlt _ _ h2,hlt _ _ h2,h3⟩
theorem Tg {w:World} {S:Eu} (hlt:∀ t b,S t b→b<w.heap.size) {t:Bool} {s n:Nat} {vs:List Value} {v:Value} (h:BE w S (.row t s n (vs.map .val)) v) :
  ∃ A c,v=.slice A n c∧(A=none→c=0)∧n≤c∧vs.length=n*s∧Am w w.heap.size A vs:=by
 obtain ⟨A,c,xs,h1,h2,h3,h4,h5,h6⟩:=Tf hlt h
 rw [Lp h5] at h6
 exact ⟨A,c,h1,h2,h3,by simpa using h4,h6⟩
theorem Th (xs:List Int):xs.map dI=(CO xs).map .val:=by simp [CO,dI]
theorem Qf {w:World} {S:Eu} (hlt:∀ t b,S t b→b<w.heap.size) {t:Bool} {xs:List Int} {v:Value} (h:BE w S (BQ t xs) v):∃ A c,v=.slice A xs.length c∧(A=none→c=0)∧xs.length≤c∧Am w w.heap.size A (CO xs):=by
 unfold BQ at h
 rw [Th] at h
 obtain ⟨A,c,h1,h2,h3,_,h4⟩:=Tg hlt h
 exact ⟨A,c,h1,h2,h3,h4⟩
theorem Ws {w w':World} {e s n:Nat} {v:Value} {xs:List Value} (h:w'.ownsRow w.heap.size e s v n xs) (h1:∀ u∈xs,u.oneCell'=true):BE w' (Yx w w') (.row false s n (xs.map .val)) v:=by
 have hl:=h.1
 rcases h.2 with ⟨rfl,rfl⟩|⟨g,cap,cur,rfl,hb,hg,hnc,hcm,hcs,htk⟩
 ·have:xs=[]:=List.eq_nil_of_length_eq_zero (by simpa using hl)
  subst this
  exact .row [] (Nat.le_refl _) (fun _=>rfl) (by simp) rfl (fun h=>absurd rfl h) (fun j u x h=>by simp at h)
 ·have hlt:=(Array.getElem?_eq_some_iff.1 hg).1
  refine .row xs hnc (by simp) (by simpa using hl) (by simp) (fun _=>⟨g,0,rfl,⟨rfl,hb,hlt⟩,fun j x hj=>?_⟩) (Hq h1).2
  rw [Nat.zero_add,Oe h (List.getElem?_eq_some_iff.1 hj).1]
  exact hj
theorem Nz {w w':World} {v:Value} {xs:List Int} (h:Ej w' w.heap.size v xs):BE w' (Yx w w') (BQ false xs) v:=by
 unfold BQ
 rw [Th]
 exact Ws h (fun u hu=>by obtain ⟨z,_,rfl⟩:=List.mem_map.1 hu;rfl)
def Aen (p:Prt):List D:=[dI p.lo,dI p.hi,dI p.fr]
def dBk (t:Bool) (b:Bk):List D:=[dI b.kind,BQ t b.args,dI b.vn,dI b.ve,dI b.un,dI b.ue]
def dIns (x:Ins):List D:=[dI x.op,dI x.dst,dI x.a,dI x.b,dI x.sa,dI x.sb,dI x.imm]
def Fk (t:Bool) (ps:List Prt):D:=.row t 3 ps.length (AN Aen ps)
def EX (t:Bool) (bs:List Bk):D:=.row t 6 bs.length (AN (dBk t) bs)
def rowN (t:Bool) (xs:List Ins):D:=.row t 7 xs.length (AN dIns xs)
def dDg (t:Bool) (ps:List Prt) (bs:List Bk) (os:List Int):List D:=[Fk t ps,EX t bs,BQ t os]
def aDg (t:Bool) (ps:List Prt) (bs:List Bk) (os:List Int):A:=.agg (dDg t ps bs os)
def aE (n:Int):A:=.one (.val (GH n))
theorem Lr (n:Int):(GH n).oneCell'=true:=by unfold GH;split <;> rfl
theorem NC {α:Type} {f:α→List D} {g:α→List Value} (h:∀ x,f x=(g x).map .val) (l:List α):AN f l=(Hb g l).map .val:=by
 induction l with
 | nil=>rfl
 | cons x l ih =>
  simp only [AN,Hb,List.map_cons,List.flatten_cons,List.map_append] at ih ⊢
  rw [ih,h]
theorem Qg (p:Prt):Aen p=(Prt.cells p).map .val:=rfl
def Bk.z (b:Bk):Bk:={ b with A:=none,cap:=0 }
section
variable (bs:List Bk)
theorem bk_z (i:Nat):((bs.map Bk.z)[i]?.getD bk0)=(bs[i]?.getD bk0).z:=by
 rw [List.getElem?_map]
 cases bs[i]? <;> rfl
theorem Ls:BU (bs.map Bk.z)=BU bs:=funext fun i=>by unfold BU;rw [bk_z];rfl
theorem YP:Nu (bs.map Bk.z)=Nu bs:=funext fun i=>by unfold Nu;rw [bk_z];rfl
theorem AbM:Du (bs.map Bk.z)=Du bs:=funext fun i=>by unfold Du;rw [Ls,YP]
theorem AbN:Ei (bs.map Bk.z)=Ei bs:=funext fun o=>funext fun j=>by unfold Ei;rw [Ls]
theorem Agg:rdy (bs.map Bk.z)=rdy bs:=funext fun o=>funext fun j=>by unfold rdy;rw [AbN,AbM]
theorem Agh:nxt (bs.map Bk.z)=nxt bs:=funext fun o=>by unfold nxt;rw [Agg,List.length_map]
theorem Aag:∀ f o,Rf (bs.map Bk.z) f o=Rf bs f o
 | 0,o=>rfl
 | f+1,o=>by
  unfold Rf
  rw [Agh]
  cases nxt bs o with
  | none=>rfl
  | some i=>exact Aag f _
theorem Wt:Dc (bs.map Bk.z)=Dc bs:=by unfold Dc;rw [Aag,List.length_map]
theorem YQ:Dl (bs.map Bk.z)=Dl bs:=by unfold Dl;rw [Ls,List.length_map]
theorem Aah:CA (bs.map Bk.z)=CA bs:=by unfold CA;rw [Ls,List.length_map]
theorem YR:Fy (bs.map Bk.z)=Fy bs:=by unfold Fy;rw [Wt,YQ]
theorem FQ (ps:List Prt) (os:List Int):BN ps (bs.map Bk.z) os=BN ps bs os:=by
 have h1:Ey ps (bs.map Bk.z) os=Ey ps bs os:=by unfold Ey;rw [List.length_map]
 have h2:DJ ps (bs.map Bk.z) os=DJ ps bs os:=by
  unfold DJ
  rw [List.length_map,List.map_map]
  rfl
 unfold BN
 simp only [h1,h2,YR]
end
theorem Wu {w:World} {S:Eu} {t:Bool} (hlt:∀ t b,S t b→b<w.heap.size):∀ {bs:List Bk} {xs:List Value},Bv (BE w S) (AN (dBk t) bs) xs→∃ bs',xs=Hb Bk.cells bs'∧bs'.map Bk.z=bs.map Bk.z∧∀ b∈bs',Am w w.heap.size b.A (CO b.args)
 | [],xs,h=>by
  have:=(show Bv (BE w S) [] xs from h).unnil
  exact ⟨[],this,rfl,by simp⟩
 | b::bs,xs,h=>by
  have h':Bv (BE w S) (dI b.kind::BQ t b.args::dI b.vn::dI b.ve::dI b.un::dI b.ue::AN (dBk t) bs) xs:=h
  obtain ⟨v0,x1,rfl,q0,h⟩:=h'.uncons
  obtain ⟨v1,x2,rfl,q1,h⟩:=h.uncons
  obtain ⟨v2,x3,rfl,q2,h⟩:=h.uncons
  obtain ⟨v3,x4,rfl,q3,h⟩:=h.uncons
  obtain ⟨v4,x5,rfl,q4,h⟩:=h.uncons
  obtain ⟨v5,x6,rfl,q5,h⟩:=h.uncons
  obtain ⟨bs',rfl,h2,h3⟩:=Wu hlt h
  obtain ⟨A,c,rfl,_,_,hc⟩:=Qf hlt q1
  cases q0;cases q2;cases q3;cases q4;cases q5
  refine ⟨⟨b.kind,A,b.args,c,b.vn,b.ve,b.un,b.ue⟩::bs',rfl,?_,fun x hx=>?_⟩
  ·simp only [List.map_cons,h2]
   rfl
  ·rcases List.mem_cons.1 hx with rfl|hx
   ·exact hc
   ·exact h3 x hx
structure Lb (ps:List Prt) (bs:List Bk) (os:List Int):Prop where
 l1:ps.length≤1000000
 l2:bs.length≤1000000
 l3:os.length≤1000000
 la:∀ b∈bs,b.args.length≤1000000
theorem Ow {w:World} {S:Eu} (hlt:∀ t b,S t b→b<w.heap.size) {t:Bool} {ps:List Prt} {bs:List Bk} {os:List Int} {v:Value} (h:EN w S (aDg t ps bs os) v) (hl:Lb ps bs os) :
  ∃ d:Dg,v=d.val∧Ta w w.heap.size d∧d.ps=ps∧d.bs.map Bk.z=bs.map Bk.z∧d.os=os∧(d.A1=none→d.c1=0)∧(d.A3=none→d.c3=0):=by
 obtain ⟨xs,rfl,hl0⟩:=h
 obtain ⟨v0,x1,rfl,q0,h⟩:=Bv.uncons hl0
 obtain ⟨v1,x2,rfl,q1,h⟩:=h.uncons
 obtain ⟨v2,x3,rfl,q2,h⟩:=h.uncons
 have:=h.unnil
 subst this
 unfold Fk at q0
 rw [NC Qg] at q0
 obtain ⟨A1,c1,rfl,n1,_,_,k1⟩:=Tg hlt q0
 obtain ⟨A2,c2,ys,rfl,_,_,hlen,hr,k2⟩:=Tf hlt q1
 obtain ⟨bs',rfl,h2,h3⟩:=Wu hlt hr
 obtain ⟨A3,c3,rfl,n3,_,k3⟩:=Qf hlt q2
 have hbl:bs'.length=bs.length:=by have:=congrArg List.length h2;simpa using this
 refine ⟨⟨A1,ps,c1,A2,bs',c2,A3,os,c3⟩,?_,⟨k1,k2,k3,fun b hb=>⟨h3 b hb,?_⟩,hl.l1,by show bs'.length≤_;rw [hbl];exact hl.l2,hl.l3⟩,rfl,h2,rfl,n1,n3⟩
 ·simp [Dg.val,hbl]
 ·have hz:b.z∈bs.map Bk.z:=by rw [←h2];exact List.mem_map_of_mem hb
  obtain ⟨b0,hb0,he⟩:=List.mem_map.1 hz
  have:b.args=b0.args:=(congrArg Bk.args he).symm
  rw [this]
  exact hl.la b0 hb0
theorem Mt (w w':World) (h:Below w.heap.size w w') (ht:Ax w):Ax w':=ht.call h
theorem GR {w:World} {S:Eu} {x y:A} {a b:Value} (h1:EN w S x a) (h2:EN w S y b):Yk w S [x,y] (.tuple #[a,b]):=⟨[a,b],rfl,.cons_ h1 (.cons_ h2 .nil_)⟩
theorem BW {w:World} {S:Eu} {x:A} {vs:List Value} (h:Bv (EN w S) [x] vs):∃ v,vs=[v]∧EN w S x v:=by
 obtain ⟨v,vs',rfl,h1,h2⟩:=h.uncons
 rw [h2.unnil]
 exact ⟨v,rfl,h1⟩
theorem YS (t:Bool) {ps:List Prt} {bs:List Bk} {os:List Int} (hl:Lb ps bs os):CVF Tryz.prog Ax 60 [aDg t ps bs os] [.one (BQ false (if BN ps bs os=0 then Cs (Dc bs) else [])),aE (BN ps bs os)]:=fun w S vs hg hlt ha=>by
 obtain ⟨v,rfl,hv⟩:=BW ha
 obtain ⟨d,rfl,hd,rfl,hz,rfl,_,_⟩:=Ow hlt hv hl
 refine (Wr d _ w (Nat.le_refl _) hd hg).mono fun e w' ⟨so,he,hown,hb⟩=>?_
 have e1:BN d.ps d.bs d.os=BN d.ps bs d.os:=by rw [←FQ,hz,FQ]
 have e2:Dc d.bs=Dc bs:=by rw [←Wt,hz,Wt]
 unfold Afk at hown
 rw [e1,e2] at hown
 unfold dgE at he
 rw [e1] at he
 exact ⟨_,he,GR (Nz hown) (BE.val (Lr _)),hb⟩
theorem Wv (t:Bool) {ps:List Prt} {bs:List Bk} {os:List Int} (hl:Lb ps bs os):CVF Tryz.prog Ax 19 [aDg t ps bs os] [.one (BQ false (if BN ps bs os=0 then Cs (CA bs) else [])),aE (BN ps bs os)]:=fun w S vs hg hlt ha=>by
 obtain ⟨v,rfl,hv⟩:=BW ha
 obtain ⟨d,rfl,hd,rfl,hz,rfl,_,_⟩:=Ow hlt hv hl
 refine (Uk d _ w (Nat.le_refl _) hd hg).mono fun e w' ⟨so,he,hown,hb⟩=>?_
 have e1:BN d.ps d.bs d.os=BN d.ps bs d.os:=by rw [←FQ,hz,FQ]
 have e2:CA d.bs=CA bs:=by rw [←Aah,hz,Aah]
 unfold Afl at hown
 rw [e1,e2] at hown
 unfold dgE at he
 rw [e1] at he
 exact ⟨_,he,GR (Nz hown) (BE.val (Lr _)),hb⟩
theorem Bo {t:Bool} {bs:List Bk} {k:Nat} {y:Bk} (h:bs[k]?=some y):((AN (dBk t) bs).drop (k*6)).take 6=dBk t y:=Fh (f:=dBk t) (s:=6) (fun _=>rfl) h
theorem ND {ps:List Prt} {k:Nat} {y:Prt} (h:ps[k]?=some y):((AN Aen ps).drop (k*3)).take 3=Aen y:=Fh (f:=Aen) (s:=3) (fun _=>rfl) h
theorem Ak {xs:List Int} {k:Nat} {z:Int} (h:xs[k]?=some z):((xs.map dI).drop (k*1)).take 1=[dI z]:=Nt h
inductive AbO (t:Bool):D→Prop
 | val (v:Value):AbO t (.val v)
 | row {s n:Nat} {cs:List D} (h:∀ d∈cs,AbO t d):AbO t (.row t s n cs)
 | ptr {cs:List D} (h:∀ d∈cs,AbO t d):AbO t (.ptr t cs)
def ATag (t:Bool):A→Prop
 | .one d=>AbO t d
 | .agg ds=>∀ d∈ds,AbO t d
theorem Ip {α:Type} {f:α→List D} (hf:∀ x,∀ d∈f x,FB d) (l:List α):∀ d∈AN f l,FB d:=fun d hd=>by
 obtain ⟨ds,h1,h2⟩:=List.mem_flatten.1 hd
 obtain ⟨x,_,rfl⟩:=List.mem_map.1 h1
 exact hf x d h2
section
variable {P:Program} {G:World→Prop} {o:Oper} {F:Frm} {H:List Ob}
theorem DS {t t':TypeId} {x:Operand} {E:Int} {b:Bool} (ho:o.op=.binOp .neq t x (.const .nilIface) t') (ht:TyI P t) (hx:F.ev x=.one (.d (.val (GH E)))) (hb:(E != 0)=b):Bs P G o F H (.one (.d (.val (.bool b)))) []:=by
 by_cases h:E=0
 ·refine Oj ho ht hx (.inr (.inl ⟨rfl,?_,?_⟩))
  ·rw [h,Dk]
  ·rw [←hb,Re h]
 ·refine Oj ho ht hx (.inr (.inr (.inr ⟨rfl,⟨_,_,Dx h⟩,?_⟩)))
  rw [←hb,Ok h]
theorem Cf {t t':TypeId} {x:Operand} {E:Int} {b:Bool} (ho:o.op=.binOp .eql t x (.const .nilIface) t') (ht:TyI P t) (hx:F.ev x=.one (.d (.val (GH E)))) (hb:(E == 0)=b):Bs P G o F H (.one (.d (.val (.bool b)))) []:=by
 by_cases h:E=0
 ·refine Oj ho ht hx (.inl ⟨rfl,?_,?_⟩)
  ·rw [h,Dk]
  ·rw [←hb,Ik h]
 ·refine Oj ho ht hx (.inr (.inr (.inl ⟨rfl,⟨_,_,Dx h⟩,?_⟩)))
  rw [←hb,Mj h]
theorem rv_e {t:Tmp} {E E':Int} (hF:F t=.one (.d (.val (GH E)))) (hz:E=E'):RV P F H (.tmp t) (aE E'):=.tmp (by rw [hF,hz];exact .one (.d fun _=>.val _))
theorem Qh {t:Tmp} {E':Int} (hF:F t=.one (.d (.val .nilIface))) (hz:E'=0):RV P F H (.tmp t) (aE E'):=.tmp (by rw [hF,hz];exact .one (.d fun _=>.val _))
theorem Ox {t:Tmp} {n E':Int} (hF:F t=.one (.d (.val (.iface 109 (.int .i64 n))))) (h0:n≠0) (hz:E'=n):RV P F H (.tmp t) (aE E'):=.tmp (by rw [hF,hz,←Dx h0];exact .one (.d fun _=>.val _))
theorem Ww {t:Tmp} {ty ty' id k:Nat} {cs:List C} {ds:List D} {y:A} (hF:F t=.one (.ref id 0 none)) (hH:H[id]?=some (.box ty' cs)) (hk:TyK P ty true k) (hi:cs.length=k) (hy:y=.agg ds) (h:Bv (Gq false H) cs ds):RV P F H (.cell t ty) y:=by
 obtain ⟨d,h1,h2⟩:=hk.h
 rw [hy]
 exact .cellA hF hH h1 h2 (by rw [hk.s,hi]) h
end
theorem qq {p p':Prop} (k:p') (h:p'→p:=by first|exact qa|exact qb|exact qc|exact qd|exact qe|exact qf|exact qg|exact qh|exact qi|exact qj|exact qk|exact ql rfl|exact qm rfl|exact qn rfl|exact Je):p:=h k
theorem cvz {f:FuncId} {fn:Func} {c:Code} {N:Nat} {args res:List A} (hf:Tryz.prog.funcs[f]?=some fn) (hN:fn.ntmps=N) (k:CW Tryz.prog Ax N c (F0 args) [] (AfH Tryz.prog fn res)) (hb:fn.body=some c:=by exact rfl) (ha:args.length≤N:=by exact Nat.le_of_ble_eq_true rfl):CV Tryz.prog Ax f args res:=Abe Mt hf hb hN ha k
section
variable {P:Program} {G:World→Prop} {o:Oper} {F:Frm} {H:List Ob}
theorem xNE {t t':TypeId} {x:Operand} {E:Int} {b:Bool} (ht:TyI P t) (ho:o.op=.binOp .neq t x (.const .nilIface) t':=by with_unfolding_all exact rfl) (hx:F.ev x=.one (.d (.val (GH E))):=by with_unfolding_all exact rfl) (hb:(E != 0)=b:=by first|exact Re rfl|exact Re (by omega)|exact Ok (by first|assumption|omega)|exact rfl):Bs P G o F H (.one (.d (.val (.bool b)))) []:=DS ho ht hx hb
theorem xNt {t:TypeId} {x:Operand} {b:Bool} (ho:o.op=.unOp .not t x:=by with_unfolding_all exact rfl) (hx:F.ev x=.one (.d (.val (.bool b))):=by with_unfolding_all exact rfl):Bs P G o F H (.one (.d (.val (.bool (!b))))) []:=AdS ho hx
theorem xNg {t:TypeId} {x:Operand} {p:Int} (ho:o.op=.unOp .neg t x:=by with_unfolding_all exact rfl) (hx:F.ev x=.one (.d (.val (.int .i64 p))):=by with_unfolding_all exact rfl) (hb : -9223372036854775807≤p∧p≤9223372036854775807:=by omega):Bs P G o F H (.one (.d (.val (.int .i64 (-p))))) []:=Ys ho hx hb
theorem xM1 {x:Operand} {c:C} (ho:o.op=.move x:=by with_unfolding_all exact rfl) (hx:F.ev x=.one c:=by with_unfolding_all exact rfl):Bs P G o F H (.one c) []:=VV ho hx
theorem xMt {x:Operand} {l:List A} (ho:o.op=.move x:=by with_unfolding_all exact rfl) (hx:F.ev x=.tup l:=by with_unfolding_all exact rfl):Bs P G o F H (.tup l) []:=Aeb ho hx
theorem xAl {t:TypeId} {z:Value} {k by_:Nat} (hz:TyZ P t z k by_) (ho:o.op=.alloc t:=by with_unfolding_all exact rfl):Bs P G o F H (.one (.ref H.length 0 none)) [.box t (ES z.cells.toList)]:=Yu ho hz
end
end Go.Proofs.YtmdfjbpggbhgnaaGreatDoor
