/- What the proofs of this claim share, part 12. No conditions. -/
import Derived.Test.YtmdfjbpggbhgnaaGreatDoorZt6
import Derived.Test.YtmdfjbpggbhgnaaGreatDoorZt8
import Derived.Test.YtmdfjbpggbhgnaaGreatDoorZt11
set_option maxHeartbeats 8000000
set_option maxRecDepth 100000
set_option linter.unusedVariables false
set_option linter.unusedSimpArgs false
set_option linter.unusedSectionVars false
namespace Go.Proofs.YtmdfjbpggbhgnaaGreatDoor
open Go.RowKit
theorem Hr (A:Option Addr) (ws:List Nat) (c m:Nat) (w:World) (h:Am w m A (w32 ws)) (hc:ws.length≤c) (hl:ws.length≤1000000) :
  Calls Tryz.prog 206 #[.slice A ws.length c] w fun e w'=>e=.returned (.slice A (GI ws).length c)∧w=w':=by
 have H:=Lib.hid h
 clear h
 go_enter Tryz.func206,Tryz.ntmps206
 go_wp2_with fail
 go_loopw [3] (fun i wr=>Adp w ws i wr) (fun i _=>(intOf i).toNat)
 case atStart=>exact ⟨ws.length,Nat.le_refl _,rfl,rfl,rfl⟩
 case round =>
  obtain ⟨k,hk,rfl,ht,rfl⟩:=hrel
  have HT:=Lib.hid ht
  clear ht
  by_cases h0:k=0
  ·subst h0
   go_wp2_with fail
   go_ret
   refine ⟨?_,rfl⟩
   rw [Ci,←HT.out]
   rfl
  ·obtain ⟨j,rfl⟩:=Nat.exists_eq_succ_of_ne_zero h0
   obtain ⟨b,off,z,rfl,hbm,hbs,hx,hcc⟩:=H.out.w32_ (k:=j) (by omega)
   have HX:=Lib.hid hx
   clear hx
   by_cases hz:z=0
   ·subst hz
    go_wp2_with fail
    have e1:Dr ws j=Dr ws ws.length:=by
     rw [←HT.out]
     show Dr ws j=if ws[j]?.getD 0=0 then Dr ws j else j+1
     rw [if_pos (by rw [HX.out];rfl)]
    exact ⟨⟨j,by omega,by go_num,e1,rfl⟩,by simp [intOf];try omega⟩
   ·have hz':((z:Int) == 0)=false:=by simp;omega
    go_wp2_with fail
    go_ret
    refine ⟨?_,rfl⟩
    have e1:j+1=Dr ws ws.length:=by
     rw [←HT.out]
     show j+1=if ws[j]?.getD 0=0 then Dr ws j else j+1
     rw [if_neg (by rw [HX.out];exact hz)]
    rw [Ci,←e1]
    rfl
theorem YT (A B:Option Addr) (a b:List Nat) (c1 c2 m:Nat) (w:World) (hm:m≤w.heap.size) (h1:Am w m A (w32 a)) (h2:Am w m B (w32 b)) (ha:Az a) (hb:Az b) (l1:a.length≤100000) (l2:b.length≤100000) :
    Calls Tryz.prog 108 #[.slice A a.length c1,.slice B b.length c2] w fun e w' =>
      ∃ G g,e=.returned (.slice G (Ad (AO a+AO b)).length g)∧(G=none→g=0)∧(Ad (AO a+AO b)).length≤g∧Am w' w'.heap.size G (w32 (Ad (AO a+AO b)))∧Below w.heap.size w w':=by
  have H1:=Lib.hid h1
  have H2:=Lib.hid h2
  have HA:=Lib.hid ha
  have HB:=Lib.hid hb
  clear h1 h2 ha hb
  go_enter Tryz.func108,Tryz.ntmps108
  go_wp2_with fail
  go_loopw [5,6,7] (fun v cv i wr=>Afs w a b v cv i wr) (fun _ _ i _=>max a.length b.length - (intOf i).toNat)
  case atStart=>exact ⟨0,[],0,Nat.zero_le _,rfl,rfl,Ds.nil_ _ _,rfl,by simp [Az],by omega,by simp [AO],Below.refl _ _⟩
  case round =>
    as_aux_lemma =>
    obtain ⟨k,os,cy,hk,rfl,rfl,hown,hol,hok,hcy,hv,hb⟩:=hrel
    have HO:=Lib.hid hown
    have HOL:=Lib.hid hol
    have HOK:=Lib.hid hok
    have HV:=Lib.hid hv
    clear hown hol hok hv
    have hmax:max (a.length:Int) (b.length:Int)=((max a.length b.length:Nat):Int):=by omega
    have hsz:=hb.size
    by_cases hlt:k<max a.length b.length
    · by_cases ka:k<a.length
      · by_cases kb:k<b.length
        · as_aux_lemma =>
          obtain ⟨b1,o1,x,rfl,q1,_,hx,g1'⟩:=H1.out.w32_ ka
          have g1:=(hb.cell (p:=⟨b1,o1+k,none⟩) (Nat.lt_of_lt_of_le q1 hm)).trans g1'
          have bx:=HA.out x (List.mem_of_getElem? hx)
          have HX := Lib.hid (show a[k]?.getD 0 = x by rw [hx]; rfl)
          have ka':(k:Int)<(a.length:Int):=by omega
          clear hx g1'
          obtain ⟨b2,o2,y,rfl,q2,_,hy,g2'⟩:=H2.out.w32_ kb
          have g2:=(hb.cell (p:=⟨b2,o2+k,none⟩) (Nat.lt_of_lt_of_le q2 hm)).trans g2'
          have by':=HB.out y (List.mem_of_getElem? hy)
          have HY := Lib.hid (show b[k]?.getD 0 = y by rw [hy]; rfl)
          have kb':(k:Int)<(b.length:Int):=by omega
          clear hy g2'
          obtain ⟨z,hz⟩:∃ z:Nat,((cy:Int)+(x:Int)+(y:Int)) % 4294967296=(z:Int):=⟨((cy+x+y) % 4294967296:Nat),by omega⟩
          obtain ⟨c',hc'⟩:∃ c':Nat,((cy:Int)+(x:Int)+(y:Int)) / 4294967296=(c':Int):=⟨((cy+x+y) / 4294967296:Nat),by omega⟩
          have HZ := Lib.hid (show z + 4294967296 * c' = cy + x + y by omega)
          have hzb:z<4294967296:=by omega
          have hcb := Lib.hid (show c' ≤ 1 by omega)
          clear ka kb
          go_wp2_with (at_builtin;refine Fx rfl _ _ rfl w.heap.size _ os z wr.heap.size rfl (HO.out.alloc _) rfl (by simp [go_sem]) (by have:=HOL.out;omega) (by simp;omega) ?_;intro v' w2 hown2 hg2 hb2)
          exact ⟨⟨k+1,os++[z],c',by omega,by go_num,rfl,hown2,by rw [List.length_append,HOL.out];rfl,BS HOK.out hzb,hcb.out,(NT HOL.out HX.out HY.out HV.out HZ.out),hb.trans ((((Below.refl _ wr).alloc (Nat.le_refl _) _).mono hb.size).trans hb2)⟩,by simp [intOf];omega⟩
        · as_aux_lemma =>
          obtain ⟨b1,o1,x,rfl,q1,_,hx,g1'⟩:=H1.out.w32_ ka
          have g1:=(hb.cell (p:=⟨b1,o1+k,none⟩) (Nat.lt_of_lt_of_le q1 hm)).trans g1'
          have bx:=HA.out x (List.mem_of_getElem? hx)
          have HX := Lib.hid (show a[k]?.getD 0 = x by rw [hx]; rfl)
          have ka':(k:Int)<(a.length:Int):=by omega
          clear hx g1'
          have HY := Lib.hid (show b[k]?.getD 0 = 0 by rw [List.getElem?_eq_none (by omega)]; rfl)
          have kb':¬ (k:Int)<(b.length:Int):=by omega
          have kb2:decide ((k:Int)<(b.length:Int))=false:=decide_eq_false kb'
          obtain ⟨z,hz⟩:∃ z:Nat,((cy:Int)+(x:Int)) % 4294967296=(z:Int):=⟨((cy+x) % 4294967296:Nat),by omega⟩
          obtain ⟨c',hc'⟩:∃ c':Nat,((cy:Int)+(x:Int)) / 4294967296=(c':Int):=⟨((cy+x) / 4294967296:Nat),by omega⟩
          have HZ := Lib.hid (show z + 4294967296 * c' = cy + x by omega)
          have hzb:z<4294967296:=by omega
          have hcb := Lib.hid (show c' ≤ 1 by omega)
          clear ka kb
          go_wp2_with (at_builtin;refine Fx rfl _ _ rfl w.heap.size _ os z wr.heap.size rfl (HO.out.alloc _) rfl (by simp [go_sem]) (by have:=HOL.out;omega) (by simp;omega) ?_;intro v' w2 hown2 hg2 hb2)
          exact ⟨⟨k+1,os++[z],c',by omega,by go_num,rfl,hown2,by rw [List.length_append,HOL.out];rfl,BS HOK.out hzb,hcb.out,(NT HOL.out HX.out HY.out HV.out (by have:=HZ.out;omega)),hb.trans ((((Below.refl _ wr).alloc (Nat.le_refl _) _).mono hb.size).trans hb2)⟩,by simp [intOf];omega⟩
      · have kb:k<b.length:=by omega
        have HX := Lib.hid (show a[k]?.getD 0 = 0 by rw [List.getElem?_eq_none (by omega)]; rfl)
        have ka':¬ (k:Int)<(a.length:Int):=by omega
        have ka2:decide ((k:Int)<(a.length:Int))=false:=decide_eq_false ka'
        obtain ⟨b2,o2,y,rfl,q2,_,hy,g2'⟩:=H2.out.w32_ kb
        have g2:=(hb.cell (p:=⟨b2,o2+k,none⟩) (Nat.lt_of_lt_of_le q2 hm)).trans g2'
        have by':=HB.out y (List.mem_of_getElem? hy)
        have HY := Lib.hid (show b[k]?.getD 0 = y by rw [hy]; rfl)
        have kb':(k:Int)<(b.length:Int):=by omega
        clear hy g2'
        obtain ⟨z,hz⟩:∃ z:Nat,((cy:Int)+(y:Int)) % 4294967296=(z:Int):=⟨((cy+y) % 4294967296:Nat),by omega⟩
        obtain ⟨c',hc'⟩:∃ c':Nat,((cy:Int)+(y:Int)) / 4294967296=(c':Int):=⟨((cy+y) / 4294967296:Nat),by omega⟩
        have HZ := Lib.hid (show z + 4294967296 * c' = cy + y by omega)
        have hzb:z<4294967296:=by omega
        have hcb := Lib.hid (show c' ≤ 1 by omega)
        clear ka kb
        go_wp2_with (at_builtin;refine Fx rfl _ _ rfl w.heap.size _ os z wr.heap.size rfl (HO.out.alloc _) rfl (by simp [go_sem]) (by have:=HOL.out;omega) (by simp;omega) ?_;intro v' w2 hown2 hg2 hb2)
        exact ⟨⟨k+1,os++[z],c',by omega,by go_num,rfl,hown2,by rw [List.length_append,HOL.out];rfl,BS HOK.out hzb,hcb.out,(NT HOL.out HX.out HY.out HV.out (by have:=HZ.out;omega)),hb.trans ((((Below.refl _ wr).alloc (Nat.le_refl _) _).mono hb.size).trans hb2)⟩,by simp [intOf];omega⟩
    · as_aux_lemma =>
      have hle:¬ (k:Int)<((max a.length b.length:Nat):Int):=by omega
      have hke:k=max a.length b.length:=by omega
      have hka:a.length≤k:=by omega
      have hkb:b.length≤k:=by omega
      have hcy32:cy<4294967296:=by omega
      obtain ⟨ws,hws⟩:∃ ws,ws=os++[cy]:=⟨_,rfl⟩
      have hwok:Az ws:=by rw [hws];exact BS HOK.out hcy32
      have hwl:ws.length=k+1:=by rw [hws,List.length_append,HOL.out];rfl
      have hwv:AO ws=AO a+AO b:=by
        have hv:=HV.out
        rw [List.take_of_length_le hka,List.take_of_length_le hkb] at hv
        rw [hws,Cc,HOL.out,←hv]
        simp only [AO,Nat.mul_zero,Nat.add_zero]
      have hl6:ws.length≤1000000:=by omega
      have HWS:=Lib.hid hws
      have HWO:=Lib.hid hwok
      have HWV:=Lib.hid hwv
      clear hws hwok hwv hmax hke hka hkb hwl hlt
      have hmax:max (a.length:Int) (b.length:Int)=((max a.length b.length:Nat):Int):=by omega
      go_wp2_with (first
        | (go_at_call 206;refine (Hr G ws g w2.heap.size w2 hGc hgc hl6).mono ?_;rintro e w3 ⟨rfl,rfl⟩)
        | (at_builtin;refine Fx rfl _ _ rfl w.heap.size _ os cy wr.heap.size rfl (HO.out.alloc _) rfl (by simp [go_sem]) (by have:=HOL.out;omega) (by simp;omega) ?_;intro v' w2 hown2 hg2 hb2;rw [←HWS.out] at hown2;obtain ⟨G,g,rfl,hGn,hGc⟩:=hown2.view;obtain ⟨_,hgc,_,_⟩:=hown2.cap_))
      go_ret
      have hcan:=Cv HWO.out
      rw [HWV.out] at hcan
      refine ⟨G,g,by rw [hcan];rfl,hGn,?_,?_,hb.trans ((((Below.refl _ wr).alloc (Nat.le_refl _) _).mono hb.size).trans hb2)⟩
      · rw [←hcan,Ci]
        have:=Dz ws ws.length
        omega
      · rw [←hcan]
        exact hGc.takeW _
theorem YU (A B:Option Addr) (a b:List Nat) (c1 c2 m:Nat) (w:World) (h1:Am w m A (w32 a)) (h2:Am w m B (w32 b)) (ha:Az a) (hb:Az b) (l1:a.length≤100000) (l2:b.length≤100000) :
  Calls Tryz.prog 109 #[.slice A a.length c1,.slice B b.length c2] w fun e w'=>e=.returned (.bool (Vc a b))∧Below w.heap.size w w':=by
 have H1:=Lib.hid h1
 have H2:=Lib.hid h2
 have HA:=Lib.hid ha
 have HB:=Lib.hid hb
 clear h1 h2 ha hb
 by_cases hl:a.length=b.length
 ·have HL:=Lib.hid hl
  have e1:((a.length:Int) != (b.length:Int))=false:=by simp;omega
  have hlb:Vc a b=decide (AO a<AO b):=if_pos hl
  rw [hlb]
  clear hl hlb
  go_enter Tryz.func109,Tryz.ntmps109
  go_wp2_with fail
  go_loopw [5] (fun i wr=>Adq w a b i wr) (fun i _=>(intOf i+1).toNat)
  case atStart=>exact ⟨a.length,0,Nat.le_refl _,rfl,by rw [List.drop_length,HL.out,List.drop_length],rfl⟩
  case round =>
   as_aux_lemma =>
   obtain ⟨k,nq,hk,rfl,hd,rfl⟩:=hrel
   have HD:=Lib.hid hd
   clear hd
   by_cases h0:k=0
   ·subst h0
    go_wp2_with fail
    go_ret
    refine ⟨?_,below_drewN (Below.refl _ _) _⟩
    have:=HD.out
    simp at this
    subst this
    simp
   ·obtain ⟨j,rfl⟩:=Nat.exists_eq_succ_of_ne_zero h0
    obtain ⟨b1,o1,x,rfl,_,_,hx,g1⟩:=H1.out.w32_ (k:=j) (by omega)
    obtain ⟨b2,o2,y,rfl,_,_,hy,g2⟩:=H2.out.w32_ (k:=j) (by have:=HL.out;omega)
    have HX:=Lib.hid hx
    have HY:=Lib.hid hy
    have hj:((j.succ:Nat):Int) - 1=(j:Int):=by omega
    have hja:(j:Int)<(a.length:Int):=by omega
    have hjb:(j:Int)<(b.length:Int):=by have:=HL.out;omega
    rw [hj]
    clear hx hy h0
    by_cases hxy:x=y
    ·subst hxy
     have e2:((x:Int) != (x:Int))=false:=by simp
     go_wp2_with fail
     go_quiet (fail)
     go_wp2_with fail
     exact ⟨⟨j,_,by omega,by go_num,Pu HX.out HY.out HD.out,rfl⟩,by simp [intOf];try omega⟩
    ·have e2:((x:Int) != (y:Int))=true:=by simp;omega
     have HN:=Lib.hid hxy
     clear hxy
     go_wp2_with fail
     go_quiet (fail)
     go_wp2_with fail
     go_quiet (fail)
     go_wp2_with fail
     go_ret
     refine ⟨?_,by repeat (first|exact Below.refl _ _|refine DW ?_ _)⟩
     rw [Vb HA.out HB.out HX.out HY.out HD.out HN.out]
     simp
 ·have e1:((a.length:Int) != (b.length:Int))=true:=by simp;omega
  have hlb:Vc a b=decide (a.length<b.length):=if_neg hl
  rw [hlb]
  clear hl hlb
  go_enter Tryz.func109,Tryz.ntmps109
  go_wp2_with fail
  go_ret
  exact ⟨by simp,Below.refl _ _⟩
theorem Wx (A B:Option Addr) (a b:List Nat) (c1 c2 m:Nat) (w:World) (hm:m≤w.heap.size) (h1:Am w m A (w32 a)) (h2:Am w m B (w32 b)) (ha:Az a) (hb:Az b) (l1:a.length≤100000) (l2:b.length≤a.length) (hle:AO b≤AO a) :
  Calls Tryz.prog 110 #[.slice A a.length c1,.slice B b.length c2] w fun e w' =>
   ∃ G g,e=.returned (.slice G (Ad (AO a - AO b)).length g)∧(G=none→g=0)∧(Ad (AO a - AO b)).length≤g∧Am w' w'.heap.size G (w32 (Ad (AO a - AO b)))∧Below w.heap.size w w':=by
 have H1:=Lib.hid h1
 have H2:=Lib.hid h2
 have HA:=Lib.hid ha
 have HB:=Lib.hid hb
 have HLE:=Lib.hid hle
 clear h1 h2 ha hb hle
 go_enter Tryz.func110,Tryz.ntmps110
 go_wp2_with fail
 go_loopw [5,6,11] (fun v cv i wr=>Aft w a b v cv i wr) (fun _ _ i _=>a.length - (intOf i).toNat)
 case atStart=>exact ⟨0,[],0,Nat.zero_le _,rfl,rfl,Ds.nil_ _ _,rfl,by simp [Az],by omega,by simp [AO],Below.refl _ _⟩
 case round =>
  as_aux_lemma =>
  obtain ⟨k,os,br,hk,rfl,rfl,hown,hol,hok,hcy,hv,hb⟩:=hrel
  have HO:=Lib.hid hown
  have HOL:=Lib.hid hol
  have HOK:=Lib.hid hok
  have HV:=Lib.hid hv
  clear hown hol hok hv
  have hsz:=hb.size
  by_cases hlt:k<a.length
  ·by_cases kb:k<b.length
   ·skip
    obtain ⟨b1,o1,x,rfl,q1,_,hx,g1'⟩:=H1.out.w32_ hlt
    have g1:=(hb.cell (p:=⟨b1,o1+k,none⟩) (Nat.lt_of_lt_of_le q1 hm)).trans g1'
    have bx:=HA.out x (List.mem_of_getElem? hx)
    have HX:=Lib.hid (show a[k]?.getD 0=x by rw [hx];rfl)
    have ka':(k:Int)<(a.length:Int):=by omega
    clear hx g1'
    obtain ⟨b2,o2,y,rfl,q2,_,hy,g2'⟩:=H2.out.w32_ kb
    have g2:=(hb.cell (p:=⟨b2,o2+k,none⟩) (Nat.lt_of_lt_of_le q2 hm)).trans g2'
    have by':=HB.out y (List.mem_of_getElem? hy)
    have HY:=Lib.hid (show b[k]?.getD 0=y by rw [hy];rfl)
    have kb':(k:Int)<(b.length:Int):=by omega
    clear hy g2'
    by_cases hneg:(x:Int) - (br:Int) - (y:Int)<0
    ·as_aux_lemma =>
     obtain ⟨z,hz⟩:∃ z:Nat,(x:Int) - (br:Int) - (y:Int)+4294967296=(z:Int):=⟨((x:Int) - (br:Int) - (y:Int)+4294967296).toNat,by omega⟩
     have HZ:=Lib.hid (show z+br+y=x+4294967296*1 by omega)
     have hzb:z<4294967296:=by omega
     have hzm:(z:Int) % 4294967296=(z:Int):=by omega
     clear hlt kb
     go_wp2_with (at_builtin;refine Fx rfl _ _ rfl w.heap.size _ os z wr.heap.size rfl (HO.out.alloc _) rfl (by simp [go_sem]) (by have:=HOL.out;omega) (by simp;omega) ?_;intro v' w2 hown2 hg2 hb2)
     exact ⟨⟨k+1,os++[z],1,by omega,by go_num,rfl,hown2,by rw [List.length_append,HOL.out];rfl,BS HOK.out hzb,by omega,NU HOL.out HX.out HY.out HV.out HZ.out,hb.trans ((((Below.refl _ wr).alloc (Nat.le_refl _) _).mono hb.size).trans hb2)⟩,by simp [intOf];omega⟩
    ·as_aux_lemma =>
     obtain ⟨z,hz⟩:∃ z:Nat,(x:Int) - (br:Int) - (y:Int)=(z:Int):=⟨((x:Int) - (br:Int) - (y:Int)).toNat,by omega⟩
     have HZ:=Lib.hid (show z+br+y=x+4294967296*0 by omega)
     have hzb:z<4294967296:=by omega
     have hzm:(z:Int) % 4294967296=(z:Int):=by omega
     clear hlt kb
     go_wp2_with (at_builtin;refine Fx rfl _ _ rfl w.heap.size _ os z wr.heap.size rfl (HO.out.alloc _) rfl (by simp [go_sem]) (by have:=HOL.out;omega) (by simp;omega) ?_;intro v' w2 hown2 hg2 hb2)
     exact ⟨⟨k+1,os++[z],0,by omega,by go_num,rfl,hown2,by rw [List.length_append,HOL.out];rfl,BS HOK.out hzb,by omega,NU HOL.out HX.out HY.out HV.out HZ.out,hb.trans ((((Below.refl _ wr).alloc (Nat.le_refl _) _).mono hb.size).trans hb2)⟩,by simp [intOf];omega⟩
   ·skip
    obtain ⟨b1,o1,x,rfl,q1,_,hx,g1'⟩:=H1.out.w32_ hlt
    have g1:=(hb.cell (p:=⟨b1,o1+k,none⟩) (Nat.lt_of_lt_of_le q1 hm)).trans g1'
    have bx:=HA.out x (List.mem_of_getElem? hx)
    have HX:=Lib.hid (show a[k]?.getD 0=x by rw [hx];rfl)
    have ka':(k:Int)<(a.length:Int):=by omega
    clear hx g1'
    have HY:=Lib.hid (show b[k]?.getD 0=0 by rw [List.getElem?_eq_none (by omega)];rfl)
    have kb':¬ (k:Int)<(b.length:Int):=by omega
    by_cases hneg:(x:Int) - (br:Int)<0
    ·as_aux_lemma =>
     obtain ⟨z,hz⟩:∃ z:Nat,(x:Int) - (br:Int)+4294967296=(z:Int):=⟨((x:Int) - (br:Int)+4294967296).toNat,by omega⟩
     have HZ:=Lib.hid (show z+br+0=x+4294967296*1 by omega)
     have hzb:z<4294967296:=by omega
     have hzm:(z:Int) % 4294967296=(z:Int):=by omega
     clear hlt kb
     go_wp2_with (at_builtin;refine Fx rfl _ _ rfl w.heap.size _ os z wr.heap.size rfl (HO.out.alloc _) rfl (by simp [go_sem]) (by have:=HOL.out;omega) (by simp;omega) ?_;intro v' w2 hown2 hg2 hb2)
     exact ⟨⟨k+1,os++[z],1,by omega,by go_num,rfl,hown2,by rw [List.length_append,HOL.out];rfl,BS HOK.out hzb,by omega,NU HOL.out HX.out HY.out HV.out HZ.out,hb.trans ((((Below.refl _ wr).alloc (Nat.le_refl _) _).mono hb.size).trans hb2)⟩,by simp [intOf];omega⟩
    ·as_aux_lemma =>
     obtain ⟨z,hz⟩:∃ z:Nat,(x:Int) - (br:Int)=(z:Int):=⟨((x:Int) - (br:Int)).toNat,by omega⟩
     have HZ:=Lib.hid (show z+br+0=x+4294967296*0 by omega)
     have hzb:z<4294967296:=by omega
     have hzm:(z:Int) % 4294967296=(z:Int):=by omega
     clear hlt kb
     go_wp2_with (at_builtin;refine Fx rfl _ _ rfl w.heap.size _ os z wr.heap.size rfl (HO.out.alloc _) rfl (by simp [go_sem]) (by have:=HOL.out;omega) (by simp;omega) ?_;intro v' w2 hown2 hg2 hb2)
     exact ⟨⟨k+1,os++[z],0,by omega,by go_num,rfl,hown2,by rw [List.length_append,HOL.out];rfl,BS HOK.out hzb,by omega,NU HOL.out HX.out HY.out HV.out HZ.out,hb.trans ((((Below.refl _ wr).alloc (Nat.le_refl _) _).mono hb.size).trans hb2)⟩,by simp [intOf];omega⟩
  ·as_aux_lemma =>
   have hka:a.length≤k:=by omega
   have hkb:b.length≤k:=by omega
   have hke:k=a.length:=by omega
   have hwv:AO os=AO a - AO b:=by
    have hv:=HV.out
    rw [List.take_of_length_le hka,List.take_of_length_le hkb,hke] at hv
    exact Adr (HOL.out.trans hke) HOK.out hcy HLE.out hv
   have hl6:os.length≤1000000:=by have:=HOL.out;omega
   have HWV:=Lib.hid hwv
   obtain ⟨G,g,rfl,hGn,hGc⟩:=HO.out.view
   obtain ⟨_,hgc,_,_⟩:=HO.out.cap_
   have HGC:=Lib.hid hGc
   clear hwv hka hkb hke hGc
   go_wp2_with (go_at_call 206;refine (Hr G os g wr.heap.size wr HGC.out hgc hl6).mono ?_;rintro e w3 ⟨rfl,rfl⟩)
   go_ret
   have hcan:=Cv HOK.out
   rw [HWV.out] at hcan
   refine ⟨G,g,by rw [hcan];rfl,hGn,?_,?_,hb⟩
   ·rw [←hcan,Ci]
    have:=Dz os os.length
    omega
   ·rw [←hcan]
    exact HGC.out.takeW _
theorem Wy (neg:Bool) (A:Option Addr) (n den c m:Nat) (w:World) (hm:m≤w.heap.size) (h:Am w m A (w32 (Ad n))) (hl:(Ad n).length≤100000) (ok:Ads neg n den) :
  Calls Tryz.prog 81 #[.agg #[.bool neg,.slice A (Ad n).length c,.int .i64 (den:Int)]] w fun e w'=>e=.returned (.bool true)∧Below w.heap.size w w':=by
 by_cases h0:n=0
 ·obtain ⟨rfl,rfl⟩:=ok.zero h0
  subst h0
  rw [AP]
  clear h hl ok
  go_enter Tryz.func81,Tryz.ntmps81
  go_wp2_with fail
  go_ret
  exact ⟨rfl,(Below.refl _ w).alloc (Nat.le_refl _) _⟩
 ·have hp:=Co h0
  have ht:=LL h0
  obtain ⟨b,off,z,rfl,q1,q2,hz,g1⟩:=h.w32_ (k:=(Ad n).length - 1) (by omega)
  have hz0:((z:Int) != 0)=true:=by
   rw [hz] at ht
   simp at ht
   simp
   omega
  have g0:w.cell? ⟨b,off,none⟩=some (.int .u32 ((n % 4294967296:Nat):Int)):=by
   obtain ⟨b',off',z',hA,_,_,hz',g'⟩:=h.w32_ (k:=0) hp
   cases hA
   rw [Nb h0] at hz'
   cases hz'
   exact g'
  obtain ⟨L,hL⟩:∃ L,L=(Ad n).length - 1:=⟨_,rfl⟩
  obtain ⟨x,hx⟩:∃ x:Nat,x=n % 4294967296:=⟨_,rfl⟩
  have hlen:(Ad n).length=L+1:=by omega
  have hd:=ok.fine
  have ho:=ok.odd
  rw [←hx] at g0
  rw [←hL] at g1
  rw [hlen]
  have hl':L≤100000:=by omega
  have e0:((L:Int)+1 == 0)=false:=by simp;omega
  have hodd:den≠0→(x:Int) % 2=1:=fun hne=>by have:=ho hne;omega
  clear h hl ok ho ht hz hL hx hlen hp h0
  by_cases hden:den=0
  ·subst hden
   clear hodd hd
   go_enter Tryz.func81,Tryz.ntmps81
   go_wp2_with fail
   go_ret
   exact ⟨rfl,(Below.refl _ w).alloc (Nat.le_refl _) _⟩
  ·have ho:=hodd hden
   have d0:((den:Int) == 0)=false:=by simp;omega
   have d1:decide ((den:Int)≤65536)=true:=decide_eq_true (by omega)
   clear hodd hden
   go_enter Tryz.func81,Tryz.ntmps81
   go_wp2_with fail
   go_ret
   exact ⟨rfl,(Below.refl _ w).alloc (Nat.le_refl _) _⟩
theorem YV {tmps:Array Value} {w:World} {b:Nat} {v0 v1 v2:Value} (h2:tmps.getD 2 undef=.pointer (some ⟨b,0,none⟩)) (hB:Bh w b [v0,v1,v2] 43) :
  (results Tryz.f105 tmps).run Tryz.prog w=.ok (.agg #[v0,v1,v2]) w:=by
 have k0:=hB.cell 0
 have k1:=hB.cell 1
 have k2:=hB.cell 2
 simp at k0 k1 k2
 simp at h2
 simp [results,Tryz.results105,go_sem,h2,k0,k1,k2]
theorem Lu (neg:Bool) (A:Option Addr) (n den c m:Nat) (w:World) (hm:m≤w.heap.size) (h:Am w m A (w32 (Ad n))) (hl:(Ad n).length≤100000) (ok:Ads neg n den) :
  Calls Tryz.prog 105 #[.agg #[.bool neg,.slice A (Ad n).length c,.int .i64 (den:Int)]] w fun e w'=>e=.returned (.agg #[.bool neg,.slice A (Ad n).length c,.int .i64 (den:Int)])∧Below w.heap.size w w':=by
 have H:=Lib.hid h
 have OK:=Lib.hid ok
 have HL:=Lib.hid hl
 clear h ok hl
 have b0:Below w.heap.size w ((w.alloc (.cells #[.bool neg,.slice A (Ad n).length c,.int .i64 (den:Int)] 43)).alloc (.cells #[.bool false,.slice none 0 0,.int .i64 0] 43)):=Aq (Aq (Below.refl _ _) _) _
 have r0:=Bh.new_ (w.alloc (.cells #[.bool neg,.slice A (Ad n).length c,.int .i64 (den:Int)] 43)) [.bool false,.slice none 0 0,.int .i64 0] 43
 go_enter Tryz.func105,Tryz.ntmps105
 go_wp2_with fail
 go_at_call 81
 refine (Wy neg A n den c m _ (by simp;omega) (H.out.below b0 hm) HL.out OK.out).mono ?_
 rintro e w1 ⟨rfl,hb⟩
 obtain ⟨qc,qf,qs,qz⟩:=EO (m:=w.heap.size+2) hb (by simp) (by simp)
 have r1:=r0.below hb (by simp)
 have b1:=b0.trans (hb.mono (by simp;omega))
 have e1:(w.alloc (.cells #[.bool neg,.slice A (Ad n).length c,.int .i64 (den:Int)] 43)).heap.size=w.heap.size+1:=by simp
 rw [e1] at r1
 clear hb r0 b0 e1
 go_wp2_with fail
 refine bodyPost_ret (YV rfl (((r1.set_ 0 _).set_ 1 _).set_ 2 _)) rfl ⟨rfl,((b1.setCell (by simp) _).setCell (by simp) _).setCell (by simp) _⟩
theorem YW (neg:Bool) (A:Option Addr) (n den c m:Nat) (w:World) (hm:m≤w.heap.size) (h:Am w m A (w32 (Ad n))) (hl:(Ad n).length≤100000) (ok:Ads neg n den) :
  Calls Tryz.prog 41 #[.agg #[.bool neg,.slice A (Ad n).length c,.int .i64 (den:Int)]] w fun e w'=>e=.returned (.int .i64 (sgn neg n))∧Below w.heap.size w w':=by
 have H:=Lib.hid h
 have OK:=Lib.hid ok
 have HL:=Lib.hid hl
 clear h ok hl
 have b0:Below w.heap.size w (w.alloc (.cells #[.bool neg,.slice A (Ad n).length c,.int .i64 (den:Int)] 43)):=Aq (Below.refl _ _) _
 have r0:=Bh.new_ w [.bool neg,.slice A (Ad n).length c,.int .i64 (den:Int)] 43
 by_cases h0:n=0
 ·have SV:sgn neg n=0:=by simp [sgn,h0]
  have ez:(((Ad n).length:Int) == 0)=true:=by rw [h0,AP];rfl
  clear h0
  go_enter Tryz.func41,Tryz.ntmps41
  go_wp2_with fail
  go_at_call 105
  refine (Lu neg A n den c m _ (by simp;omega) (H.out.below b0 hm) HL.out OK.out).mono ?_
  rintro e w1 ⟨rfl,hb⟩
  obtain ⟨qc,qf,qs,qz⟩:=EO (m:=w.heap.size+1) hb (by simp) (by simp)
  have b1:=b0.trans (hb.mono (by simp))
  clear hb r0 b0
  go_wp2_with fail
  go_ret
  exact ⟨by rw [SV];rfl,((b1.setCell (by simp) _).setCell (by simp) _).setCell (by simp) _⟩
 ·have hp:=Co h0
  have ez:(((Ad n).length:Int) == 0)=false:=by rw [beq_eq_false_iff_ne];omega
  cases neg with
  | true =>
   have SV:sgn true n = -1:=by simp [sgn,h0]
   clear hp h0
   go_enter Tryz.func41,Tryz.ntmps41
   go_wp2_with fail
   go_at_call 105
   refine (Lu true A n den c m _ (by simp;omega) (H.out.below b0 hm) HL.out OK.out).mono ?_
   rintro e w1 ⟨rfl,hb⟩
   obtain ⟨qc,qf,qs,qz⟩:=EO (m:=w.heap.size+1) hb (by simp) (by simp)
   have b1:=b0.trans (hb.mono (by simp))
   clear hb r0 b0
   go_wp2_with fail
   go_ret
   exact ⟨by rw [SV];rfl,((b1.setCell (by simp) _).setCell (by simp) _).setCell (by simp) _⟩
  | false =>
   have SV:sgn false n=1:=by simp [sgn,h0]
   clear hp h0
   go_enter Tryz.func41,Tryz.ntmps41
   go_wp2_with fail
   go_at_call 105
   refine (Lu false A n den c m _ (by simp;omega) (H.out.below b0 hm) HL.out OK.out).mono ?_
   rintro e w1 ⟨rfl,hb⟩
   obtain ⟨qc,qf,qs,qz⟩:=EO (m:=w.heap.size+1) hb (by simp) (by simp)
   have b1:=b0.trans (hb.mono (by simp))
   clear hb r0 b0
   go_wp2_with fail
   go_ret
   exact ⟨by rw [SV];rfl,((b1.setCell (by simp) _).setCell (by simp) _).setCell (by simp) _⟩
theorem YX (A:Option Addr) (a:List Nat) (c n m:Nat) (w:World) (hm:m≤w.heap.size) (h1:Am w m A (w32 a)) (ha:Az a) (l1:a.length≤100000) (hn:n≤1000000) :
    Calls Tryz.prog 106 #[.slice A a.length c,.int .i64 (n:Int)] w fun e w' =>
      ∃ G g,e=.returned (.slice G (Ad (AO a*2 ^ n)).length g)∧(G=none→g=0)∧(Ad (AO a*2 ^ n)).length≤g∧Am w' w'.heap.size G (w32 (Ad (AO a*2 ^ n)))∧Below w.heap.size w w':=by
  rw [LO n]
  obtain ⟨q,hq⟩:∃ q,q=n / 32:=⟨_,rfl⟩
  obtain ⟨p,hp⟩:∃ p,p=2 ^ (n % 32):=⟨_,rfl⟩
  have hp0:0<p:=by rw [hp];exact Nat.two_pow_pos _
  have hp32:p≤2147483648:=by
    rw [hp]
    exact Nat.pow_le_pow_right (n := 2) (by decide) (show n % 32 ≤ 31 by omega)
  rw [←hq,←hp]
  have HP:=Lib.hid hp
  have H1:=Lib.hid h1
  have HA:=Lib.hid ha
  have hqi:(n:Int) / 32=(q:Int):=by omega
  have hq6:q≤31250:=by omega
  clear h1 ha hp hq
  obtain ⟨i0,hi,hz0,hz1,hz2⟩:=info_parts NV
  go_enter Tryz.func106,Tryz.ntmps106
  go_wp2_with (with_reducible refine wpList_make_full _ rfl (.tmp 10) (.tmp 10) 41 rfl w.heap.size 126 i0 (.int .u32 0) 1 GJ hi hz0 hz1 .i64 .i64 _ _ q rfl rfl rfl rfl (by rw [hz2];omega) (by unfold maxLen;omega) (Nat.le_refl _) ?_;intro w2 hown hg)
  have hst:=(Below.refl w.heap.size w).grown hg (Nat.le_refl _) (fun k h=>by simp at h)
  have hown2:Ds w2 w.heap.size (.slice (some ⟨w.heap.size,0,none⟩) q q) (List.replicate q 0):=by
    have e1:w32 (List.replicate q 0)=(madeCells (Value.int .u32 0).cells (q*1)).toList:=by
      rw [Nat.mul_one]
      have:=toList_madeCells_one (Value.int .u32 0) q
      simp only [w32,List.map_replicate]
      exact this.symm
    unfold Ds
    rw [e1,List.length_replicate]
    exact hown
  have hsz:=hst.size
  clear hown hg hi hz0 hz1 hz2
  go_loopw [5,6,14] (fun v cv i wr=>Afv w a q p v cv i wr) (fun _ _ i _=>a.length - (intOf i).toNat)
  case atStart=>exact ⟨0,List.replicate q 0,0,Nat.zero_le _,rfl,rfl,hown2,by simp,LM q,hp0,by simp [En,AO],hst⟩
  case round =>
    as_aux_lemma =>
    obtain ⟨k,os,cy,hk,rfl,rfl,hown,hol,hok,hcy,hv,hb⟩:=hrel
    have HO:=Lib.hid hown
    have HOL:=Lib.hid hol
    have HOK:=Lib.hid hok
    have HV:=Lib.hid hv
    clear hown hol hok hv hown2 hst
    have hsz:=hb.size
    by_cases hlt:k<a.length
    · as_aux_lemma =>
      obtain ⟨b1,o1,x,rfl,q1,_,hx,g1'⟩:=H1.out.w32_ hlt
      have g1:=(hb.cell (p:=⟨b1,o1+k,none⟩) (Nat.lt_of_lt_of_le q1 hm)).trans g1'
      have bx:=HA.out x (List.mem_of_getElem? hx)
      have HX := Lib.hid (show a[k]?.getD 0 = x by rw [hx]; rfl)
      have ka':(k:Int)<(a.length:Int):=by omega
      clear hx g1'
      obtain ⟨s,hs⟩:∃ s:Nat,s=cy+x*p:=⟨_,rfl⟩
      have hor:bits .or .u64 (cy:Int) (IntKind.u64.wrap ((x:Int)*2 ^ (n % 32)))=(s:Int):=by
        rw [hs]
        exact Afu HP.out hcy bx (by omega)
      have HC:=Lib.hid (Ve hcy bx)
      rw [←hs] at HC
      obtain ⟨z,hz⟩:∃ z:Nat,(s:Int) % 4294967296=(z:Int):=⟨(s % 4294967296:Nat),by omega⟩
      obtain ⟨c',hc'⟩:∃ c':Nat,(s:Int) / 4294967296=(c':Int):=⟨(s / 4294967296:Nat),by omega⟩
      have HZ := Lib.hid (show z + 4294967296 * c' = cy + x * p by rw [← hs]; omega)
      have hzb:z<4294967296:=by omega
      have HC2 := Lib.hid (show c' < p by have h := HC.out; omega)
      clear hs HC
      go_wp2_with (at_builtin;refine Fx rfl _ _ rfl w.heap.size _ os z wr.heap.size rfl (HO.out.alloc _) rfl (by simp [go_sem]) (by have:=HOL.out;omega) (by simp;omega) ?_;intro v' w3 hown3 hg3 hb3)
      exact ⟨⟨k+1,os++[z],c',by omega,by go_num,rfl,hown3,by rw [List.length_append,HOL.out];rfl,BS HOK.out hzb,HC2.out,Vf HOL.out HX.out HV.out HZ.out,hb.trans ((((Below.refl _ wr).alloc (Nat.le_refl _) _).mono hb.size).trans hb3)⟩,by simp [intOf];omega⟩
    · as_aux_lemma =>
      have hle:¬ (k:Int)<(a.length:Int):=by omega
      have hka:a.length≤k:=by omega
      have hcy32:cy<4294967296:=by omega
      have hcym:(cy:Int) % 4294967296=(cy:Int):=by omega
      obtain ⟨ws,hws⟩:∃ ws,ws=os++[cy]:=⟨_,rfl⟩
      have hwok:Az ws:=by rw [hws];exact BS HOK.out hcy32
      have hwl:ws.length=q+k+1:=by rw [hws,List.length_append,HOL.out];rfl
      have hwv:AO ws=AO a*(4294967296 ^ q*p):=by
        have hv:=HV.out
        rw [List.take_of_length_le hka] at hv
        rw [hws,Cc,HOL.out,←hv]
        simp only [AO,Nat.mul_zero,Nat.add_zero]
      have hl6:ws.length≤1000000:=by omega
      have HWS:=Lib.hid hws
      have HWO:=Lib.hid hwok
      have HWV:=Lib.hid hwv
      clear hws hwok hwv hka hwl hlt
      go_wp2_with (first
        | (go_at_call 206;refine (Hr G ws g w3.heap.size w3 hGc hgc hl6).mono ?_;rintro e w4 ⟨rfl,rfl⟩)
        | (at_builtin;refine Fx rfl _ _ rfl w.heap.size _ os cy wr.heap.size rfl (HO.out.alloc _) rfl (by simp [go_sem]) (by have:=HOL.out;omega) (by simp;omega) ?_;intro v' w3 hown3 hg3 hb3;rw [←HWS.out] at hown3;obtain ⟨G,g,rfl,hGn,hGc⟩:=hown3.view;obtain ⟨_,hgc,_,_⟩:=hown3.cap_))
      go_ret
      have hcan:=Cv HWO.out
      rw [HWV.out] at hcan
      refine ⟨G,g,by rw [hcan];rfl,hGn,?_,?_,hb.trans ((((Below.refl _ wr).alloc (Nat.le_refl _) _).mono hb.size).trans hb3)⟩
      · rw [←hcan,Ci]
        have:=Dz ws ws.length
        omega
      · rw [←hcan]
        exact hGc.takeW _
theorem FS (A:Option Addr) (a:List Nat) (c n m:Nat) (w:World) (hm:m≤w.heap.size) (h1:Am w m A (w32 a)) (ha:Az a) (l1:a.length≤100000) (hn:n≤1000000) :
  Calls Tryz.prog 207 #[.slice A a.length c,.int .i64 (n:Int)] w fun e w' =>
   ∃ G g,e=.returned (.tuple #[.slice G (Ad (AO a / 2 ^ n)).length g,.bool (Lh (AO a) n)])∧(G=none→g=0)∧(Ad (AO a / 2 ^ n)).length≤g∧Am w' w'.heap.size G (w32 (Ad (AO a / 2 ^ n)))∧Below w.heap.size w w':=by
 have H1:=Lib.hid h1
 have HA:=Lib.hid ha
 clear h1 ha
 go_enter Tryz.func207,Tryz.ntmps207
 go_wp2_with fail
 go_loopw [6,7] (fun cv i wr=>Afx a n w cv i wr) (fun _ i _=>n - (intOf i).toNat)
 case atStart=>exact ⟨0,Nat.zero_le _,Nat.zero_le _,rfl,by rw [Vg],rfl⟩
 case round =>
  obtain ⟨k,hk,hkl,rfl,rfl,rfl⟩:=hrel
  by_cases hlt:k<n
  ·by_cases hlt2:k<32*a.length
   ·obtain ⟨q,hq⟩:∃ q,q=k / 32:=⟨_,rfl⟩
    have hka:q<a.length:=by omega
    obtain ⟨b1,o1,x,rfl,q1,_,hx,g1⟩:=H1.out.w32_ hka
    have bx:=HA.out x (List.mem_of_getElem? hx)
    have HX:=Lib.hid (show a[k / 32]?.getD 0=x by rw [←hq,hx];rfl)
    have i1:(k:Int)<(n:Int):=by omega
    have i2:(k:Int)<32*(a.length:Int):=by omega
    have i3:(k:Int) / 32=(q:Int):=by omega
    have i4:(q:Int)<(a.length:Int):=by omega
    clear hq
    clear hx
    obtain ⟨cb,hcb⟩:∃ cb,cb=Lh (AO a) k:=⟨_,rfl⟩
    rw [←hcb]
    have HC:=Lib.hid hcb
    clear hcb
    cases cb with
    | true =>
     go_wp2_with fail
     have e:=Pv (AO a) k
     rw [←HC.out] at e
     exact ⟨⟨k+1,by omega,by omega,by go_num,by rw [e];rfl,rfl⟩,by simp [intOf];omega⟩
    | false =>
     go_wp2_with fail
     have e:=Pv (AO a) k
     rw [←HC.out,←ZR HA.out bx HX.out] at e
     exact ⟨⟨k+1,by omega,by omega,by go_num,by rw [e];rfl,rfl⟩,by simp [intOf];omega⟩
   ·as_aux_lemma =>
    have hc:Lh (AO a) k=Lh (AO a) n:=by
     have hl:=BV HA.out
     have e:(4294967296:Nat) ^ a.length=2 ^ (32*a.length):=by
      rw [Nat.pow_mul]
     rw [e,show 32*a.length=k by omega] at hl
     exact (Ye hl hk).symm
    have hz:Ad (AO a / 2 ^ n)=[]:=by
     have hl:=BV HA.out
     have e:(4294967296:Nat) ^ a.length=2 ^ (32*a.length):=by
      rw [Nat.pow_mul]
     rw [e] at hl
     rw [Nat.div_eq_of_lt (Nat.lt_of_lt_of_le hl (Nat.pow_le_pow_right (by decide) (by omega))),AP]
    have i1:(k:Int)<(n:Int):=by omega
    have i2:¬ (k:Int)<32*(a.length:Int):=by omega
    have i3:32*(a.length:Int)≤(n:Int):=by omega
    rw [hc]
    have HZ:=Lib.hid hz
    clear hc hz
    go_wp2_with fail
    exact bodyPost_ret (v:=.tuple #[.slice none 0 0,.bool (Lh (AO a) n)]) (by simp [results,Tryz.results207,go_sem]) rfl ⟨none,0,by rw [HZ.out];rfl,fun _=>rfl,by rw [HZ.out];exact Nat.le_refl _,by rw [HZ.out];exact Am.nil_,Below.refl _ _⟩
  ·have hkn:k=n:=by omega
   subst hkn
   have i1:¬ (k:Int)<(k:Int):=by omega
   by_cases hlt2:k<32*a.length
   ·as_aux_lemma =>
    obtain ⟨q,hq⟩:∃ q,q=k / 32:=⟨_,rfl⟩
    have hql:q<a.length:=by omega
    have i3:¬ 32*(a.length:Int)≤(k:Int):=by omega
    have i4:(k:Int) / 32=(q:Int):=by omega
    have HQ:=Lib.hid hq
    clear hlt hlt2 hq hkl hk
    go_wp2_with fail
    go_loopw [8,9] (fun v i wr=>Adt w a k q v i wr) (fun _ i _=>a.length - (intOf i).toNat)
    case atStart=>exact ⟨0,[],by omega,by simp,Ds.nil_ _ _,rfl,by simp [Az],by simp [AO,Nat.mod_one],Below.refl _ _⟩
    case round =>
     as_aux_lemma =>
     obtain ⟨j,os,hj,rfl,hown,hol,hok,hv,hb⟩:=hrel
     have HO:=Lib.hid hown
     have HOL:=Lib.hid hol
     have HOK:=Lib.hid hok
     have HV:=Lib.hid hv
     clear hown hol hok hv
     have hsz:=hb.size
     obtain ⟨i,hi⟩:∃ i,i=q+j:=⟨_,rfl⟩
     rw [←hi]
     have hij:(i:Int)+1=((q+(j+1):Nat):Int):=by omega
     have HIJ:=Lib.hid hij
     have HI:=Lib.hid hi
     have hjl:j<1000000:=by omega
     clear hi hij hj
     by_cases hlt:i<a.length
     ·obtain ⟨b1,o1,x,rfl,q1,_,hx,g1'⟩:=H1.out.w32_ hlt
      have g1:=(hb.cell (p:=⟨b1,o1+i,none⟩) (Nat.lt_of_lt_of_le q1 hm)).trans g1'
      have bx:=HA.out x (List.mem_of_getElem? hx)
      have HX:=Lib.hid (show a[k / 32+j]?.getD 0=x by rw [←HQ.out,←HI.out,hx];rfl)
      have ka':(i:Int)<(a.length:Int):=by omega
      clear hx g1'
      by_cases hlt2:i+1<a.length
      ·obtain ⟨b2,o2,y,hA2,q2,_,hy,g2'⟩:=H1.out.w32_ hlt2
       cases hA2
       have g2:=(hb.cell (p:=⟨b1,o1+(i+1),none⟩) (Nat.lt_of_lt_of_le q1 hm)).trans g2'
       have by':=HA.out y (List.mem_of_getElem? hy)
       have HY:=Lib.hid (show a[k / 32+j+1]?.getD 0=y by rw [←HQ.out,←HI.out,hy];rfl)
       have kb':(i:Int)+1<(a.length:Int):=by omega
       clear hy g2'
       obtain ⟨z,hzn⟩:∃ z:Nat,z=(x+y*4294967296) / 2 ^ (k % 32) % 4294967296:=⟨_,rfl⟩
       have hz:(bits .or .u64 (x:Int) ((y:Int)*4294967296) / 2 ^ (k % 32) % 4294967296)=(z:Int):=by rw [hzn,Afw bx by'];simp
       have HZ:=Lib.hid (show z=(a[k / 32+j]?.getD 0+a[k / 32+j+1]?.getD 0*4294967296) / 2 ^ (k % 32) % 4294967296 by rw [HX.out,HY.out];exact hzn)
       clear hzn
       have HZB:=Lib.hid (show z<4294967296 by rw [HZ.out];exact Nat.mod_lt _ (by decide))
       have hj2:q+(j+1)≤a.length:=by have:=HIJ.out;omega
       go_wp2_with (at_builtin;refine Fx rfl _ _ rfl w.heap.size _ os z wr.heap.size rfl (HO.out.alloc _) rfl (by simp [go_sem]) (by have:=HOL.out;omega) (by simp;omega) ?_;intro v' w3 hown3 hg3 hb3)
       exact ⟨⟨j+1,os++[z],hj2,by rw [←HIJ.out],hown3,by rw [List.length_append,HOL.out];rfl,BS HOK.out HZB.out,QP HA.out HOL.out HV.out HZ.out,hb.trans ((((Below.refl _ wr).alloc (Nat.le_refl _) _).mono hb.size).trans hb3)⟩,by simp [intOf];try omega⟩
      ·have HY:=Lib.hid (show a[k / 32+j+1]?.getD 0=0 by rw [←HQ.out,←HI.out,List.getElem?_eq_none (by omega)];rfl)
       have kb':¬ (i:Int)+1<(a.length:Int):=by omega
       obtain ⟨z,hzn⟩:∃ z:Nat,z=x / 2 ^ (k % 32) % 4294967296:=⟨_,rfl⟩
       have hz:((x:Int) / 2 ^ (k % 32) % 4294967296)=(z:Int):=by rw [hzn];simp
       have HZ:=Lib.hid (show z=(a[k / 32+j]?.getD 0+a[k / 32+j+1]?.getD 0*4294967296) / 2 ^ (k % 32) % 4294967296 by rw [HX.out,HY.out,Nat.zero_mul,Nat.add_zero];exact hzn)
       clear hzn
       have HZB:=Lib.hid (show z<4294967296 by rw [HZ.out];exact Nat.mod_lt _ (by decide))
       have hj2:q+(j+1)≤a.length:=by have:=HIJ.out;omega
       go_wp2_with (at_builtin;refine Fx rfl _ _ rfl w.heap.size _ os z wr.heap.size rfl (HO.out.alloc _) rfl (by simp [go_sem]) (by have:=HOL.out;omega) (by simp;omega) ?_;intro v' w3 hown3 hg3 hb3)
       exact ⟨⟨j+1,os++[z],hj2,by rw [←HIJ.out],hown3,by rw [List.length_append,HOL.out];rfl,BS HOK.out HZB.out,QP HA.out HOL.out HV.out HZ.out,hb.trans ((((Below.refl _ wr).alloc (Nat.le_refl _) _).mono hb.size).trans hb3)⟩,by simp [intOf];try omega⟩
     ·as_aux_lemma =>
      have hle:¬ (i:Int)<(a.length:Int):=by omega
      have hl6:os.length≤1000000:=by have:=HOL.out;omega
      have HWV:=Lib.hid (ZQ (k:=j) HA.out (by have:=HI.out;have:=HQ.out;omega) HV.out)
      obtain ⟨G,g,rfl,hGn,hGc⟩:=HO.out.view
      obtain ⟨_,hgc,_,_⟩:=HO.out.cap_
      have HGC:=Lib.hid hGc
      clear hGc
      go_wp2_with (go_at_call 206;refine (Hr G os g wr.heap.size wr HGC.out hgc hl6).mono ?_;rintro e w3 ⟨rfl,rfl⟩)
      have hcan:=Cv HOK.out
      rw [HWV.out] at hcan
      refine bodyPost_ret (v:=.tuple #[.slice G (GI os).length g,.bool (Lh (AO a) k)]) (by simp [results,Tryz.results207,go_sem]) rfl ⟨G,g,by rw [hcan],hGn,?_,?_,hb⟩
      ·rw [←hcan,Ci]
       have:=Dz os os.length
       omega
      ·rw [←hcan]
       exact HGC.out.takeW _
   ·as_aux_lemma =>
    have hz:Ad (AO a / 2 ^ k)=[]:=by
     have hl:=BV HA.out
     have e:(4294967296:Nat) ^ a.length=2 ^ (32*a.length):=by
      rw [Nat.pow_mul]
     rw [e] at hl
     rw [Nat.div_eq_of_lt (Nat.lt_of_lt_of_le hl (Nat.pow_le_pow_right (by decide) (by omega))),AP]
    have i3:32*(a.length:Int)≤(k:Int):=by omega
    have HZ:=Lib.hid hz
    clear hz
    go_wp2_with fail
    exact bodyPost_ret (v:=.tuple #[.slice none 0 0,.bool (Lh (AO a) k)]) (by simp [results,Tryz.results207,go_sem]) rfl ⟨none,0,by rw [HZ.out];rfl,fun _=>rfl,by rw [HZ.out];exact Nat.le_refl _,by rw [HZ.out];exact Am.nil_,Below.refl _ _⟩
theorem Gk {tmps:Array Value} {w:World} {b:Nat} {v0 v1 v2:Value} (h2:tmps.getD 6 undef=.pointer (some ⟨b,0,none⟩)) (hB:Bh w b [v0,v1,v2] 43) :
  (results Tryz.f107 tmps).run Tryz.prog w=.ok (.agg #[v0,v1,v2]) w:=by
 have k0:=hB.cell 0
 have k1:=hB.cell 1
 have k2:=hB.cell 2
 simp at k0 k1 k2
 simp at h2
 simp [results,Tryz.results107,go_sem,h2,k0,k1,k2]
theorem Ir (neg:Bool) (A:Option Addr) (ws:List Nat) (c den m:Nat) (w:World) (hm:m≤w.heap.size) (h1:Am w m A (w32 ws)) (hc:ws.length≤c) (ha:Az ws) (l1:ws.length≤100000) (hd:den≤65536) :
    Calls Tryz.prog 107 #[.bool neg,.slice A ws.length c,.int .i64 (den:Int)] w fun e w' =>
      ∃ v,e=.returned v∧DyR w' w.heap.size w'.heap.size v (nf (sg neg (AO ws)) den).1 (nf (sg neg (AO ws)) den).2∧Below w.heap.size w w':=by
  have hcan:=Cv ha
  have hlen:(Ad (AO ws)).length≤ws.length:=by
    rw [←hcan,Ci]
    exact Dz _ _
  have HCAN:=Lib.hid hcan
  have H1:=Lib.hid h1
  have hct:=h1.takeW (Dr ws ws.length)
  rw [show ws.take (Dr ws ws.length)=Ad (AO ws) from hcan] at hct
  have HCT:=Lib.hid hct
  obtain ⟨n,hn⟩:∃ n,n=AO ws:=⟨_,rfl⟩
  rw [←hn] at HCT HCAN hlen ⊢
  have l2:(Ad n).length≤100000:=by omega
  have l3:(Ad n).length≤c:=by omega
  have l4:ws.length≤1000000:=by omega
  clear h1 ha hcan hct hn
  have b0:Below w.heap.size w (w.alloc (.cells #[.bool false,.slice none 0 0,.int .i64 0] 43)):=Aq (Below.refl _ _) _
  have r0:=Bh.new_ w [.bool false,.slice none 0 0,.int .i64 0] 43
  go_enter Tryz.func107,Tryz.ntmps107
  go_wp2_with (go_at_call 206;refine (Hr A ws c m _ (H1.out.below b0 hm) hc l4).mono ?_;rintro e w3 ⟨rfl,rfl⟩)
  rw [HCAN.out]
  by_cases hn0:n=0
  · subst hn0
    have hr:nf (sg neg 0) den=(0,0):=by
      rw [show sg neg 0=0 by unfold sg;split <;> rfl]
      exact QS den
    have HR:=Lib.hid hr
    clear hr
    rw [AP] at HCT ⊢
    clear l2 l3 hlen
    go_loopw [7] (fun i wr=>Afy (w.alloc (.cells #[.bool false,.slice none 0 0,.int .i64 0] 43)) i wr) (fun i _=>0)
    case atStart=>exact ⟨rfl,rfl⟩
    case round =>
      obtain ⟨rfl,rfl⟩:=hrel
      have i9:¬ (65536:Int)<(den:Int):=by omega
      by_cases hlt:den=0
      · subst hlt
        go_wp2_with (go_at_call 207
                     refine (FS _ [] c 0 m _ (by simp;omega) (HCT.out.below b0 hm) (by simp [Az]) (by simp) (by omega)).mono ?_
                     rintro e w2 ⟨G,g,rfl,hG,hg,hcG,hb2⟩
                     rw [show AO [] / 2 ^ 0=0 by rfl,AP]
                     have hsz2:=hb2.size
                     simp at hsz2
                     have hszl:w.heap.size<w2.heap.size:=by omega
                     obtain ⟨qc,qf,qs,qz⟩:=EO (m:=w.heap.size+1) hb2 (by simp) (by simp)
                     have r4:=r0.below hb2 (by simp)
                     have bb4:=b0.trans (hb2.mono (by simp)))
        refine bodyPost_ret (Gk rfl (((r4.set_ 0 _).set_ 1 _).set_ 2 _)) rfl ⟨_,rfl,?_,((bb4.setCell (by simp) _).setCell (by simp) _).setCell (by simp) _⟩
        rw [HR.out]
        exact DyR.zero_ _ _ _
      · have i1:0<den:=by omega
        have i2:(0:Int)<(den:Int):=by omega
        clear hlt
        go_wp2_with (go_at_call 207
                     refine (FS _ [] c 0 m _ (by simp;omega) (HCT.out.below b0 hm) (by simp [Az]) (by simp) (by omega)).mono ?_
                     rintro e w2 ⟨G,g,rfl,hG,hg,hcG,hb2⟩
                     rw [show AO [] / 2 ^ 0=0 by rfl,AP]
                     have hsz2:=hb2.size
                     simp at hsz2
                     have hszl:w.heap.size<w2.heap.size:=by omega
                     obtain ⟨qc,qf,qs,qz⟩:=EO (m:=w.heap.size+1) hb2 (by simp) (by simp)
                     have r4:=r0.below hb2 (by simp)
                     have bb4:=b0.trans (hb2.mono (by simp)))
        refine bodyPost_ret (Gk rfl (((r4.set_ 0 _).set_ 1 _).set_ 2 _)) rfl ⟨_,rfl,?_,((bb4.setCell (by simp) _).setCell (by simp) _).setCell (by simp) _⟩
        rw [HR.out]
        exact DyR.zero_ _ _ _
  · have HN0:=Lib.hid hn0
    have hn1:=Co hn0
    clear hn0
    go_loopw [7] (fun i wr=>Afz n den neg (w.alloc (.cells #[.bool false,.slice none 0 0,.int .i64 0] 43)) i wr) (fun i _=>den - (intOf i).toNat)
    case atStart=>exact ⟨0,Nat.zero_le _,Nat.zero_le _,rfl,Nat.mod_one _,by simp,rfl⟩
    case round =>
      skip
      obtain ⟨k,hk,hkl,rfl,hmod,hnf,rfl⟩:=hrel
      have HNF:=Lib.hid hnf
      have HMOD:=Lib.hid hmod
      clear hnf hmod
      have i9:¬ (65536:Int)<(den:Int) - (k:Int):=by omega
      by_cases hlt:k<den
      · have i1:(k:Int)<(den:Int):=by omega
        have hlt2:k<32*(Ad n).length:=by
          rcases Nat.lt_or_ge k (32*(Ad n).length) with h|h
          · exact h
          · exfalso
            have h2:=BV (AV n)
            rw [AE,show (4294967296:Nat)=2 ^ 32 by decide,←Nat.pow_mul,show 32*(Ad n).length=k by omega] at h2
            have h3:=HMOD.out
            rw [Nat.mod_eq_of_lt h2] at h3
            exact HN0.out h3
        obtain ⟨q,hq⟩:∃ q,q=k / 32:=⟨_,rfl⟩
        have hka:q<(Ad n).length:=by omega
        obtain ⟨b1,o1,x,rfl,q1,_,hx,g1'⟩:=HCT.out.w32_ hka
        have g1:=(b0.cell (p:=⟨b1,o1+q,none⟩) (Nat.lt_of_lt_of_le q1 hm)).trans g1'
        have bx:=AV n x (List.mem_of_getElem? hx)
        have hbit := ZR (AV n) bx (show (Ad n)[k / 32]?.getD 0 = x by rw [← hq, hx]; rfl)
        have hbit0 := Adu (AV n) bx (show (Ad n)[k / 32]?.getD 0 = x by rw [← hq, hx]; rfl)
        rw [AE] at hbit hbit0
        have i2:(k:Int)<32*((Ad n).length:Int):=by omega
        have i3:(k:Int) / 32=(q:Int):=by omega
        have i4:(q:Int)<((Ad n).length:Int):=by omega
        clear hq hx g1' hbit
        by_cases hz:n / 2 ^ k % 2=0
        · have hb0:(bits .and .u32 ((x:Int) / 2 ^ (k % 32)) 1 == 0)=true:=by rw [hbit0,hz];rfl
          have HZ:=Lib.hid hz
          clear hbit0 hz
          go_wp2_with fail
          refine ⟨⟨k+1,by omega,by omega,by go_num,Adv HMOD.out HZ.out,HNF.out.trans (Vi hlt HZ.out),rfl⟩,by simp [intOf];omega⟩
        · have hb0:(bits .and .u32 ((x:Int) / 2 ^ (k % 32)) 1 == 0)=false:=by rw [hbit0];simp;omega
          have hodd:den - k≠0→n / 2 ^ k % 2=1:=fun _=>by omega
          have hy0:n / 2 ^ k≠0:=fun h=>by rw [h] at hz;exact hz rfl
          clear hbit0 hz
          obtain ⟨y,hy⟩:∃ y,y=n / 2 ^ k:=⟨_,rfl⟩
          rw [←hy] at hodd hy0
          have HRES := Lib.hid (show nf (sg neg n) den = (sg neg y, den - k) by rw [HNF.out, ← hy]; exact Ep (fun h => by have := hodd h; unfold sg; split <;> omega))
          have HY:=Lib.hid hy
          have HODD:=Lib.hid hodd
          have HY0:=Lib.hid hy0
          have hp:=Co hy0
          have e0:(((Ad y).length:Int) == 0)=false:=by rw [beq_eq_false_iff_ne];omega
          have hyl:(Ad y).length≤100000:=by
            refine Nat.le_trans (AX ?_) l2
            rw [hy]
            exact Nat.div_le_self _ _
          clear hy hodd hy0 hp
          go_wp2_with (first
            | (go_at_call 207
               refine (FS _ (Ad n) c k m _ (by simp;omega) (HCT.out.below b0 hm) (AV n) l2 (by omega)).mono ?_
               rintro e w2 ⟨G,g,rfl,hG,hg,hcG,hb2⟩
               rw [AE,←HY.out] at hg hcG ⊢
               have hsz2:=hb2.size
               simp at hsz2
               have hszl:w.heap.size<w2.heap.size:=by omega)
            | (at_builtin
               refine AaG rfl _ _ rfl w2.heap.size _ [] (Ad y) G g w2.heap.size rfl (Ds.lit0 (Nat.le_refl _)) rfl hG (hcG.below ((Below.refl w2.heap.size w2).alloc (Nat.le_refl _) _) (Nat.le_refl _)) (by simp;omega) (by simp) ?_
               intro v' w4 hown4 hg4 hb4
               rw [List.nil_append] at hown4
               obtain ⟨A',c',rfl,_,_⟩:=hown4.view
               have hall:Below (w.heap.size+1) (w.alloc (.cells #[.bool false,.slice none 0 0,.int .i64 0] 43)) w4:=(hb2.mono (by simp)).trans ((((Below.refl (w.heap.size+1) w2).alloc (by omega) _)).trans (hb4.mono (by omega)))
               have hsz4:=hb4.size
               simp at hsz4
               have hsz5:w.heap.size<w4.heap.size:=by omega
               have r4:=r0.below hall (by simp)
               have bb4:=b0.trans (hall.mono (by simp))
               clear hb2 hb4 hg4
               obtain ⟨qc,qf,qs,qz⟩:=EO (m:=w.heap.size+1) hall (by simp) (by simp)))
          have hown5:Ds (((w4.setCell ⟨w.heap.size,0,none⟩ (.bool neg)).setCell ⟨w.heap.size,1,none⟩ (.slice A' (Ad y).length c')).setCell ⟨w.heap.size,2,none⟩ (.int .i64 ((den:Int) - (k:Int)))) w2.heap.size (.slice A' (Ad y).length c') (Ad y):=ownsRow_setCell_below (ownsRow_setCell_below (ownsRow_setCell_below hown4 (by simp;omega) _) (by simp;omega) _) (by simp;omega) _
          refine bodyPost_ret (Gk rfl (((r4.set_ 0 _).set_ 1 _).set_ 2 _)) rfl ⟨_,rfl,?_,((bb4.setCell (by simp) _).setCell (by simp) _).setCell (by simp) _⟩
          rw [HRES.out]
          obtain ⟨_,hcl,hn',hc'⟩:=hown5.cap_
          refine ⟨A',c',?_,hn',?_,?_,?_,by show den - k≤65536;omega,?_⟩
          · rw [EP,Se HY0.out]
            have:(den:Int) - (k:Int)=((den - k:Nat):Int):=by omega
            rw [this]
          · rw [EP];exact hcl
          · rw [EP];exact hc'
          · intro a ha
            have:=(World.ownsRow.lt hown5 a.block (by rw [ha];rfl)).1
            omega
          · intro h
            have:=HODD.out h
            show sg neg y % 2=1
            unfold sg
            split <;> omega
      · have hkd:k=den:=by omega
        have i1:¬ (k:Int)<(den:Int):=by omega
        have hodd:den - k≠0→n / 2 ^ k % 2=1:=fun h=>by omega
        have hy0:n / 2 ^ k≠0:=fun h=>by
          have h2:=Nat.div_add_mod n (2 ^ k)
          rw [h,HMOD.out] at h2
          exact HN0.out (by omega)
        clear hkd
        obtain ⟨y,hy⟩:∃ y,y=n / 2 ^ k:=⟨_,rfl⟩
        rw [←hy] at hodd hy0
        have HRES := Lib.hid (show nf (sg neg n) den = (sg neg y, den - k) by rw [HNF.out, ← hy]; exact Ep (fun h => by have := hodd h; unfold sg; split <;> omega))
        have HY:=Lib.hid hy
        have HODD:=Lib.hid hodd
        have HY0:=Lib.hid hy0
        have hp:=Co hy0
        have e0:(((Ad y).length:Int) == 0)=false:=by rw [beq_eq_false_iff_ne];omega
        have hyl:(Ad y).length≤100000:=by
          refine Nat.le_trans (AX ?_) l2
          rw [hy]
          exact Nat.div_le_self _ _
        clear hy hodd hy0 hp
        go_wp2_with (first
          | (go_at_call 207
             refine (FS _ (Ad n) c k m _ (by simp;omega) (HCT.out.below b0 hm) (AV n) l2 (by omega)).mono ?_
             rintro e w2 ⟨G,g,rfl,hG,hg,hcG,hb2⟩
             rw [AE,←HY.out] at hg hcG ⊢
             have hsz2:=hb2.size
             simp at hsz2
             have hszl:w.heap.size<w2.heap.size:=by omega)
          | (at_builtin
             refine AaG rfl _ _ rfl w2.heap.size _ [] (Ad y) G g w2.heap.size rfl (Ds.lit0 (Nat.le_refl _)) rfl hG (hcG.below ((Below.refl w2.heap.size w2).alloc (Nat.le_refl _) _) (Nat.le_refl _)) (by simp;omega) (by simp) ?_
             intro v' w4 hown4 hg4 hb4
             rw [List.nil_append] at hown4
             obtain ⟨A',c',rfl,_,_⟩:=hown4.view
             have hall:Below (w.heap.size+1) (w.alloc (.cells #[.bool false,.slice none 0 0,.int .i64 0] 43)) w4:=(hb2.mono (by simp)).trans ((((Below.refl (w.heap.size+1) w2).alloc (by omega) _)).trans (hb4.mono (by omega)))
             have hsz4:=hb4.size
             simp at hsz4
             have hsz5:w.heap.size<w4.heap.size:=by omega
             have r4:=r0.below hall (by simp)
             have bb4:=b0.trans (hall.mono (by simp))
             clear hb2 hb4 hg4
             obtain ⟨qc,qf,qs,qz⟩:=EO (m:=w.heap.size+1) hall (by simp) (by simp)))
        have hown5:Ds (((w4.setCell ⟨w.heap.size,0,none⟩ (.bool neg)).setCell ⟨w.heap.size,1,none⟩ (.slice A' (Ad y).length c')).setCell ⟨w.heap.size,2,none⟩ (.int .i64 ((den:Int) - (k:Int)))) w2.heap.size (.slice A' (Ad y).length c') (Ad y):=ownsRow_setCell_below (ownsRow_setCell_below (ownsRow_setCell_below hown4 (by simp;omega) _) (by simp;omega) _) (by simp;omega) _
        refine bodyPost_ret (Gk rfl (((r4.set_ 0 _).set_ 1 _).set_ 2 _)) rfl ⟨_,rfl,?_,((bb4.setCell (by simp) _).setCell (by simp) _).setCell (by simp) _⟩
        rw [HRES.out]
        obtain ⟨_,hcl,hn',hc'⟩:=hown5.cap_
        refine ⟨A',c',?_,hn',?_,?_,?_,by show den - k≤65536;omega,?_⟩
        · rw [EP,Se HY0.out]
          have:(den:Int) - (k:Int)=((den - k:Nat):Int):=by omega
          rw [this]
        · rw [EP];exact hcl
        · rw [EP];exact hc'
        · intro a ha
          have:=(World.ownsRow.lt hown5 a.block (by rw [ha];rfl)).1
          omega
        · intro h
          have:=HODD.out h
          show sg neg y % 2=1
          unfold sg
          split <;> omega
theorem IP {v:Value} {x:Int} {d lo m:Nat} {w:World} (D:DyR w lo m v x d) (hm:m≤w.heap.size) (hl:(Ad x.natAbs).length≤100000) :
  Calls Tryz.prog 105 #[v] w fun e w'=>e=.returned v∧Below w.heap.size w w':=by
 obtain ⟨A,c,rfl,h1,h2,h3,h4,h5,h6⟩:=D
 exact Lu _ A _ d c m w hm h3 hl (AaK h5 h6)
theorem Aeo {v:Value} {x:Int} {d lo m:Nat} {w:World} (D:DyR w lo m v x d) (hm:m≤w.heap.size) (hl:(Ad x.natAbs).length≤100000) :
  Calls Tryz.prog 41 #[v] w fun e w'=>e=.returned (.int .i64 (sgI x))∧Below w.heap.size w w':=by
 obtain ⟨A,c,rfl,h1,h2,h3,h4,h5,h6⟩:=D
 refine (YW _ A _ d c m w hm h3 hl (AaK h5 h6)).mono ?_
 rintro e w' ⟨rfl,hb⟩
 refine ⟨?_,hb⟩
 have:sgn (decide (x<0)) x.natAbs=sgI x:=by
  unfold sgn sgI
  by_cases h0:x=0
  ·subst h0;rfl
  ·rw [if_neg (by omega),if_neg h0]
   by_cases h1:x<0
   ·simp [h1]
   ·simp [h1]
 rw [this]
theorem Tj {neg:Bool} {A:Option Addr} {L c n d m:Nat} {w:World} (hL:L=(Ad n).length) (hc:Am w m A (w32 (Ad n))) (hcap:L≤c) (hm:m≤w.heap.size) (hl:(Ad n).length≤100000) (hd:d≤65536) :
  Calls Tryz.prog 107 #[.bool neg,.slice A L c,.int .i64 (d:Int)] w fun e w' =>
   ∃ v,e=.returned v∧DyR w' w.heap.size w'.heap.size v (nf (sg neg n) d).1 (nf (sg neg n) d).2∧Below w.heap.size w w':=by
 subst hL
 have h:=Ir neg A (Ad n) c d m w hm hc hcap (AV n) hl hd
 rw [AE] at h
 exact h
theorem AbP {tmps:Array Value} {w:World} {b:Nat} {v0 v1 v2:Value} (h2:tmps.getD 2 undef=.pointer (some ⟨b,0,none⟩)) (hB:Bh w b [v0,v1,v2] 43) :
  (results Tryz.f112 tmps).run Tryz.prog w=.ok (.agg #[v0,v1,v2]) w:=by
 have k0:=hB.cell 0
 have k1:=hB.cell 1
 have k2:=hB.cell 2
 simp at k0 k1 k2
 simp at h2
 simp [results,Tryz.results112,go_sem,h2,k0,k1,k2]
theorem Aep {v:Value} {x:Int} {d lo m:Nat} {w:World} (D:DyR w lo m v x d) (hm:m≤w.heap.size) (hl:(Ad x.natAbs).length≤100000) :
  Calls Tryz.prog 112 #[v] w fun e w'=>∃ v',e=.returned v'∧DyR w' w.heap.size w'.heap.size v' (-x) d∧Below w.heap.size w w':=by
 obtain ⟨nb,A,L,c,rfl,HD⟩:=D.form
 have D':=Lib.hid D
 clear D
 have b0:Below w.heap.size w ((w.alloc (.cells #[.bool nb,.slice A L c,.int .i64 (d:Int)] 43)).alloc (.cells #[.bool false,.slice none 0 0,.int .i64 0] 43)):=Aq (Aq (Below.refl _ _) _) _
 have r0:=(Bh.new_ (w.alloc (.cells #[.bool nb,.slice A L c,.int .i64 (d:Int)] 43)) [.bool false,.slice none 0 0,.int .i64 0] 43)
 rw [show (w.alloc (.cells #[.bool nb,.slice A L c,.int .i64 (d:Int)] 43)).heap.size=w.heap.size+1 by simp] at r0
 go_enter Tryz.func112,Tryz.ntmps112
 go_wp2_with fail
 go_at_call 105
 refine (IP (D'.out.below b0 hm) (by simp;omega) hl).mono ?_
 rintro e w1 ⟨rfl,hb⟩
 obtain ⟨qc,qf,qs,qz⟩:=EO (m:=w.heap.size+2) hb (by simp) (by simp)
 have r1:=r0.below hb (by simp)
 have b1:=b0.trans (hb.mono (by simp;omega))
 clear hb r0 b0
 go_wp2_with fail
 go_at_call 107
 obtain ⟨W,hW⟩:∃ W,W=((w1.setCell ⟨w.heap.size,0,none⟩ (.bool nb)).setCell ⟨w.heap.size,1,none⟩ (.slice A L c)).setCell ⟨w.heap.size,2,none⟩ (.int .i64 (d:Int)):=⟨_,rfl⟩
 have hWs:w.heap.size+2≤W.heap.size:=by rw [hW];simp;omega
 have b2:Below w.heap.size w W:=by rw [hW];exact ((b1.setCell (by simp) _).setCell (by simp) _).setCell (by simp) _
 have r2:Bh W (w.heap.size+1) [.bool false,.slice none 0 0,.int .i64 0] 43:=by
  rw [hW]
  exact ((r1.other_ (by omega) _ _).other_ (by omega) _ _).other_ (by omega) _ _
 rw [←hW]
 clear hW qc qf qs qz r1 b1
 refine (Tj (n:=x.natAbs) (m:=m) HD.out.2.1 (HD.out.2.2.2.2.1.below b2 hm) HD.out.2.2.2.1 (by omega) hl HD.out.2.2.2.2.2.1).mono ?_
 rintro e w3 ⟨v',rfl,D3,hb3⟩
 obtain ⟨tc,tf,ts,tz⟩:=EO (m:=w.heap.size+2) hb3 hWs hWs
 have r3:=r2.below hb3 (by omega)
 have b3:=b2.trans (hb3.mono (by omega))
 have hval:nf (sg (!nb) x.natAbs) d=(-x,d):=by
  have e:sg (!nb) x.natAbs = -x:=by
   rw [HD.out.1]
   unfold sg
   by_cases h:x<0
   ·simp [h];omega
   ·simp [h];omega
  rw [e]
  exact AfA (fun h=>by have:=HD.out.2.2.2.2.2.2 h;omega)
 rw [hval] at D3
 obtain ⟨nb3,A3,L3,c3,rfl,_⟩:=D3.form
 have D3':=Lib.hid D3
 have k0:w3.cell? ⟨w.heap.size+1,0,none⟩=some (.bool false):=r3.cell 0
 have k1:w3.cell? ⟨w.heap.size+1,1,none⟩=some (.slice none 0 0):=r3.cell 1
 have k2:w3.cell? ⟨w.heap.size+1,2,none⟩=some (.int .i64 0):=r3.cell 2
 have kf:=r3.free
 clear D3 hb3 r2 b2 hval tc tf
 go_wp2_with fail
 refine bodyPost_ret (AbP rfl (((r3.set_ 0 _).set_ 1 _).set_ 2 _)) rfl ⟨_,rfl,?_,((b3.setCell (by simp) _).setCell (by simp) _).setCell (by simp) _⟩
 exact ((((D3'.out.set_ (by omega) 0 _).set_ (by omega) 1 _).set_ (by omega) 2 _).low (by omega)).more (by simp)
theorem Aai {tmps:Array Value} {w:World} {b:Nat} {v0 v1 v2:Value} (h2:tmps.getD 2 undef=.pointer (some ⟨b,0,none⟩)) (hB:Bh w b [v0,v1,v2] 43) :
  (results Tryz.f39 tmps).run Tryz.prog w=.ok (.agg #[v0,v1,v2]) w:=by
 have k0:=hB.cell 0
 have k1:=hB.cell 1
 have k2:=hB.cell 2
 simp at k0 k1 k2
 simp at h2
 simp [results,Tryz.results39,go_sem,h2,k0,k1,k2]
theorem Aeq (n:Int) (h1 : -9223372036854775808≤n) (h2:n<9223372036854775808) (w:World) :
  Calls Tryz.prog 39 #[.int .i64 n] w fun e w'=>∃ v',e=.returned v'∧DyR w' w.heap.size w'.heap.size v' n 0∧Below w.heap.size w w':=by
 by_cases h:n<0
 ·as_aux_lemma =>
  obtain ⟨p,hp⟩:∃ p:Nat,-(n+1)=(p:Int):=⟨(-(n+1)).toNat,by omega⟩
  obtain ⟨a,ha⟩:∃ a:Nat,(p:Int)+1=(a:Int):=⟨p+1,by omega⟩
  have hsg:sg true a=n:=by unfold sg;simp;omega
  have hpb:p<9223372036854775808:=by omega
  obtain ⟨lo,hlo⟩:∃ lo:Nat,(a:Int) % 4294967296=(lo:Int):=⟨(a % 4294967296:Nat),by omega⟩
  obtain ⟨hi,hhi⟩:∃ hi:Nat,(a:Int) / 4294967296=(hi:Int):=⟨(a / 4294967296:Nat),by omega⟩
  have hib:hi<4294967296:=by omega
  have lob:lo<4294967296:=by omega
  have hval:AO [lo,hi]=a:=by rw [NY];omega
  have HSG:=Lib.hid hsg
  have HV:=Lib.hid hval
  clear hsg hval
  have b0:Below w.heap.size w ((w.alloc (.cells #[.bool false,.slice none 0 0,.int .i64 0] 43)).alloc (.cells #[.int .u32 (lo:Int),.int .u32 (hi:Int)] 126)):=Aq (Aq (Below.refl _ _) _) _
  have r0:=(Bh.new_ w [.bool false,.slice none 0 0,.int .i64 0] 43).below ((Below.refl (w.heap.size+1) _).alloc (by simp) (.cells #[.int .u32 (lo:Int),.int .u32 (hi:Int)] 126)) (by omega)
  have c0:Am ((w.alloc (.cells #[.bool false,.slice none 0 0,.int .i64 0] 43)).alloc (.cells #[.int .u32 (lo:Int),.int .u32 (hi:Int)] 126)) (w.heap.size+2) (some ⟨w.heap.size+1,0,none⟩) (w32 [lo,hi]):=by
   have h:=Bh.new_ (w.alloc (.cells #[.bool false,.slice none 0 0,.int .i64 0] 43)) (w32 [lo,hi]) 126
   rw [show (w.alloc (.cells #[.bool false,.slice none 0 0,.int .i64 0] 43)).heap.size=w.heap.size+1 by simp] at h
   exact h.cells_ (by omega)
  go_enter Tryz.func39,Tryz.ntmps39
  go_wp2_with fail
  go_at_call 107
  refine (Ir true (some ⟨w.heap.size+1,0,none⟩) [lo,hi] 2 0 (w.heap.size+2) _ (by simp) c0 (by simp) (AaL lob hib) (by simp) (by omega)).mono ?_
  rintro e w3 ⟨v',rfl,D3,hb3⟩
  obtain ⟨tc,tf,ts,tz⟩:=EO (m:=w.heap.size+2) hb3 (by simp) (by simp)
  have r3:=r0.below hb3 (by simp;omega)
  have b3:=b0.trans (hb3.mono (by simp;omega))
  rw [HV.out,HSG.out] at D3
  have D3:DyR w3 (w.heap.size+2) w3.heap.size v' n 0:=D3.low (by simp)
  obtain ⟨nb3,A3,L3,c3,rfl,_⟩:=D3.form
  have D3':=Lib.hid D3
  have k0:w3.cell? ⟨w.heap.size,0,none⟩=some (.bool false):=r3.cell 0
  have k1:w3.cell? ⟨w.heap.size,1,none⟩=some (.slice none 0 0):=r3.cell 1
  have k2:w3.cell? ⟨w.heap.size,2,none⟩=some (.int .i64 0):=r3.cell 2
  have kf:=r3.free
  clear D3 hb3 r0 b0 c0 tc tf
  go_wp2_with fail
  refine bodyPost_ret (Aai rfl (((r3.set_ 0 _).set_ 1 _).set_ 2 _)) rfl ⟨_,rfl,?_,((b3.setCell (by simp) _).setCell (by simp) _).setCell (by simp) _⟩
  exact ((((D3'.out.set_ (by omega) 0 _).set_ (by omega) 1 _).set_ (by omega) 2 _).low (by omega)).more (by simp)
 ·as_aux_lemma =>
  obtain ⟨a,rfl⟩:∃ a:Nat,n=(a:Int):=⟨n.toNat,by omega⟩
  have hsg:sg false a=(a:Int):=by unfold sg;simp
  obtain ⟨lo,hlo⟩:∃ lo:Nat,(a:Int) % 4294967296=(lo:Int):=⟨(a % 4294967296:Nat),by omega⟩
  obtain ⟨hi,hhi⟩:∃ hi:Nat,(a:Int) / 4294967296=(hi:Int):=⟨(a / 4294967296:Nat),by omega⟩
  have hib:hi<4294967296:=by omega
  have lob:lo<4294967296:=by omega
  have hval:AO [lo,hi]=a:=by rw [NY];omega
  have HSG:=Lib.hid hsg
  have HV:=Lib.hid hval
  clear hsg hval
  have b0:Below w.heap.size w ((w.alloc (.cells #[.bool false,.slice none 0 0,.int .i64 0] 43)).alloc (.cells #[.int .u32 (lo:Int),.int .u32 (hi:Int)] 126)):=Aq (Aq (Below.refl _ _) _) _
  have r0:=(Bh.new_ w [.bool false,.slice none 0 0,.int .i64 0] 43).below ((Below.refl (w.heap.size+1) _).alloc (by simp) (.cells #[.int .u32 (lo:Int),.int .u32 (hi:Int)] 126)) (by omega)
  have c0:Am ((w.alloc (.cells #[.bool false,.slice none 0 0,.int .i64 0] 43)).alloc (.cells #[.int .u32 (lo:Int),.int .u32 (hi:Int)] 126)) (w.heap.size+2) (some ⟨w.heap.size+1,0,none⟩) (w32 [lo,hi]):=by
   have h:=Bh.new_ (w.alloc (.cells #[.bool false,.slice none 0 0,.int .i64 0] 43)) (w32 [lo,hi]) 126
   rw [show (w.alloc (.cells #[.bool false,.slice none 0 0,.int .i64 0] 43)).heap.size=w.heap.size+1 by simp] at h
   exact h.cells_ (by omega)
  go_enter Tryz.func39,Tryz.ntmps39
  go_wp2_with fail
  go_at_call 107
  refine (Ir false (some ⟨w.heap.size+1,0,none⟩) [lo,hi] 2 0 (w.heap.size+2) _ (by simp) c0 (by simp) (AaL lob hib) (by simp) (by omega)).mono ?_
  rintro e w3 ⟨v',rfl,D3,hb3⟩
  obtain ⟨tc,tf,ts,tz⟩:=EO (m:=w.heap.size+2) hb3 (by simp) (by simp)
  have r3:=r0.below hb3 (by simp;omega)
  have b3:=b0.trans (hb3.mono (by simp;omega))
  rw [HV.out,HSG.out] at D3
  have D3:DyR w3 (w.heap.size+2) w3.heap.size v' (a:Int) 0:=D3.low (by simp)
  obtain ⟨nb3,A3,L3,c3,rfl,_⟩:=D3.form
  have D3':=Lib.hid D3
  have k0:w3.cell? ⟨w.heap.size,0,none⟩=some (.bool false):=r3.cell 0
  have k1:w3.cell? ⟨w.heap.size,1,none⟩=some (.slice none 0 0):=r3.cell 1
  have k2:w3.cell? ⟨w.heap.size,2,none⟩=some (.int .i64 0):=r3.cell 2
  have kf:=r3.free
  clear D3 hb3 r0 b0 c0 tc tf
  go_wp2_with fail
  refine bodyPost_ret (Aai rfl (((r3.set_ 0 _).set_ 1 _).set_ 2 _)) rfl ⟨_,rfl,?_,((b3.setCell (by simp) _).setCell (by simp) _).setCell (by simp) _⟩
  exact ((((D3'.out.set_ (by omega) 0 _).set_ (by omega) 1 _).set_ (by omega) 2 _).low (by omega)).more (by simp)
theorem Wz {v:Value} {n k m:Nat} {w:World} (h:WdR w m v n) (hm:m≤w.heap.size) (hl:(Ad n).length≤100000) (hk:k≤1000000) :
  Calls Tryz.prog 106 #[v,.int .i64 (k:Int)] w fun e w'=>∃ v',e=.returned v'∧WdR w' w'.heap.size v' (n*2 ^ k)∧Below w.heap.size w w':=by
 obtain ⟨A,c,rfl,h1,h2,h3⟩:=h
 refine (YX A (Ad n) c k m w hm h3 (AV n) hl hk).mono ?_
 rintro e w' ⟨G,g,rfl,g1,g2,g3,hb⟩
 rw [AE] at g2 g3 ⊢
 exact ⟨_,rfl,⟨G,g,rfl,g1,g2,g3⟩,hb⟩
theorem Aaj {v v2:Value} {a b m m2:Nat} {w:World} (h:WdR w m v a) (h2:WdR w m2 v2 b) (hm:m≤w.heap.size) (hm2:m2≤w.heap.size) (hl:(Ad a).length≤100000) (hl2:(Ad b).length≤100000) :
  Calls Tryz.prog 108 #[v,v2] w fun e w'=>∃ v',e=.returned v'∧WdR w' w'.heap.size v' (a+b)∧Below w.heap.size w w':=by
 obtain ⟨A,c,rfl,h1,h1',h3⟩:=h
 obtain ⟨A2,c2,rfl,k1,k1',k3⟩:=h2
 refine (YT A A2 (Ad a) (Ad b) c c2 w.heap.size w (Nat.le_refl _) (h3.more hm) (k3.more hm2) (AV a) (AV b) hl hl2).mono ?_
 rintro e w' ⟨G,g,rfl,g1,g2,g3,hb⟩
 rw [AE,AE] at g2 g3 ⊢
 exact ⟨_,rfl,⟨G,g,rfl,g1,g2,g3⟩,hb⟩
theorem WA {v v2:Value} {a b m m2:Nat} {w:World} (h:WdR w m v a) (h2:WdR w m2 v2 b) (hm:m≤w.heap.size) (hm2:m2≤w.heap.size) (hl:(Ad a).length≤100000) (hle:b≤a) :
  Calls Tryz.prog 110 #[v,v2] w fun e w'=>∃ v',e=.returned v'∧WdR w' w'.heap.size v' (a - b)∧Below w.heap.size w w':=by
 obtain ⟨A,c,rfl,h1,h1',h3⟩:=h
 obtain ⟨A2,c2,rfl,k1,k1',k3⟩:=h2
 refine (Wx A A2 (Ad a) (Ad b) c c2 w.heap.size w (Nat.le_refl _) (h3.more hm) (k3.more hm2) (AV a) (AV b) hl (AX hle) (by rw [AE,AE];exact hle)).mono ?_
 rintro e w' ⟨G,g,rfl,g1,g2,g3,hb⟩
 rw [AE,AE] at g2 g3 ⊢
 exact ⟨_,rfl,⟨G,g,rfl,g1,g2,g3⟩,hb⟩
theorem Aer {v v2:Value} {a b m m2:Nat} {w:World} (h:WdR w m v a) (h2:WdR w m2 v2 b) (hl:(Ad a).length≤100000) (hl2:(Ad b).length≤100000) :
  Calls Tryz.prog 109 #[v,v2] w fun e w'=>e=.returned (.bool (decide (a<b)))∧Below w.heap.size w w':=by
 obtain ⟨A,c,rfl,h1,h1',h3⟩:=h
 obtain ⟨A2,c2,rfl,k1,k1',k3⟩:=h2
 have:=YU A A2 (Ad a) (Ad b) c c2 (max m m2) w (h3.more (by omega)) (k3.more (by omega)) (AV a) (AV b) hl hl2
 rw [QT] at this
 exact this
theorem Ek {neg:Bool} {v:Value} {n d m:Nat} {w:World} (h:WdR w m v n) (hm:m≤w.heap.size) (hl:(Ad n).length≤100000) (hd:d≤65536) :
  Calls Tryz.prog 107 #[.bool neg,v,.int .i64 (d:Int)] w fun e w' =>
   ∃ v',e=.returned v'∧DyR w' w.heap.size w'.heap.size v' (nf (sg neg n) d).1 (nf (sg neg n) d).2∧Below w.heap.size w w':=by
 obtain ⟨A,c,rfl,h1,h1',h3⟩:=h
 exact Tj rfl h3 h1' hm hl hd
theorem Rn {tmps:Array Value} {w:World} {b:Nat} {v0 v1 v2:Value} (h2:tmps.getD 4 undef=.pointer (some ⟨b,0,none⟩)) (hB:Bh w b [v0,v1,v2] 43) :
  (results Tryz.f37 tmps).run Tryz.prog w=.ok (.agg #[v0,v1,v2]) w:=by
 have k0:=hB.cell 0
 have k1:=hB.cell 1
 have k2:=hB.cell 2
 simp at k0 k1 k2
 simp at h2
 simp [results,Tryz.results37,go_sem,h2,k0,k1,k2]
theorem Mu {v v2:Value} {x y:Int} {dx dy lo1 lo2 m m2:Nat} {w:World} (D1:DyR w lo1 m v x dx) (D2:DyR w lo2 m2 v2 y dy) (hm:m≤w.heap.size) (hm2:m2≤w.heap.size) (l1:(Ad x.natAbs).length≤50000) (l2:(Ad y.natAbs).length≤50000) :
    Calls Tryz.prog 37 #[v,v2] w fun e w'=>∃ v',e=.returned v'∧DyR w' w.heap.size w'.heap.size v' (Cw x dx y dy).1 (Cw x dx y dy).2∧Below w.heap.size w w':=by
  replace D2:=D2.more (Nat.le_max_right m m2)
  replace D1:=D1.more (Nat.le_max_left m m2)
  replace hm:max m m2≤w.heap.size:=by omega
  generalize max m m2=m at D1 D2 hm
  obtain ⟨nb1,A1,L1,c1,rfl,HD1⟩:=D1.form
  obtain ⟨nb2,A2,L2,c2,rfl,HD2⟩:=D2.form
  have b0:Below w.heap.size w (((w.alloc (.cells #[.bool nb1,.slice A1 L1 c1,.int .i64 (dx:Int)] 43)).alloc (.cells #[.bool nb2,.slice A2 L2 c2,.int .i64 (dy:Int)] 43)).alloc (.cells #[.bool false,.slice none 0 0,.int .i64 0] 43)):=Aq (Aq (Aq (Below.refl _ _) _) _) _
  have D1':=D1.below b0 hm
  have D2':=D2.below b0 hm
  clear D1 D2
  have r2:=Bh.new_ ((w.alloc (.cells #[.bool nb1,.slice A1 L1 c1,.int .i64 (dx:Int)] 43)).alloc (.cells #[.bool nb2,.slice A2 L2 c2,.int .i64 (dy:Int)] 43)) [.bool false,.slice none 0 0,.int .i64 0] 43
  have r1:=(Bh.new_ (w.alloc (.cells #[.bool nb1,.slice A1 L1 c1,.int .i64 (dx:Int)] 43)) [.bool nb2,.slice A2 L2 c2,.int .i64 (dy:Int)] 43).call ((Below.refl _ _).alloc (Nat.le_refl _) (.cells #[.bool false,.slice none 0 0,.int .i64 0] 43))
  have r0:=((Bh.new_ w [.bool nb1,.slice A1 L1 c1,.int .i64 (dx:Int)] 43).call ((Below.refl _ _).alloc (Nat.le_refl _) (.cells #[.bool nb2,.slice A2 L2 c2,.int .i64 (dy:Int)] 43))).call ((Below.refl _ _).alloc (Nat.le_refl _) (.cells #[.bool false,.slice none 0 0,.int .i64 0] 43))
  rw [show ((w.alloc (.cells #[.bool nb1,.slice A1 L1 c1,.int .i64 (dx:Int)] 43)).alloc (.cells #[.bool nb2,.slice A2 L2 c2,.int .i64 (dy:Int)] 43)).heap.size=w.heap.size+2 by simp] at r2
  rw [show (w.alloc (.cells #[.bool nb1,.slice A1 L1 c1,.int .i64 (dx:Int)] 43)).heap.size=w.heap.size+1 by simp] at r1
  go_enter Tryz.func37,Tryz.ntmps37
  go_wp2_with fail
  obtain ⟨W,hW⟩:∃ W,W=(((w.alloc (.cells #[.bool nb1,.slice A1 L1 c1,.int .i64 (dx:Int)] 43)).alloc (.cells #[.bool nb2,.slice A2 L2 c2,.int .i64 (dy:Int)] 43)).alloc (.cells #[.bool false,.slice none 0 0,.int .i64 0] 43)):=⟨_,rfl⟩
  have hWs:W.heap.size=w.heap.size+3:=by rw [hW];simp
  rw [←hW]
  rw [←hW] at b0 D1' D2' r0 r1 r2
  clear hW
  have a0:W.cell? ⟨w.heap.size,0,none⟩=some (.bool nb1):=r0.cell 0
  have a1:W.cell? ⟨w.heap.size,1,none⟩=some (.slice A1 L1 c1):=r0.cell 1
  have a2:W.cell? ⟨w.heap.size,2,none⟩=some (.int .i64 (dx:Int)):=r0.cell 2
  have e0:W.cell? ⟨w.heap.size+1,0,none⟩=some (.bool nb2):=r1.cell 0
  have e1:W.cell? ⟨w.heap.size+1,1,none⟩=some (.slice A2 L2 c2):=r1.cell 1
  have e2:W.cell? ⟨w.heap.size+1,2,none⟩=some (.int .i64 (dy:Int)):=r1.cell 2
  have hle:m≤w.heap.size+3:=by omega
  have hle2:m≤w.heap.size+2:=by omega
  have hz:w.heap.size+3≤W.heap.size:=by omega
  refine LI 4 (w.heap.size+3) hz (by kernel_rfl) (by kernel_rfl) ?_
  intro _
  simp only [List.take_succ_cons,List.take_zero,List.drop_succ_cons,List.drop_zero]
  repeat (go_big_quiet_step ((first
    | (go_at_call 105;exact He (IP (D1'.below (MY.is _) hle) (Nat.le_trans hle (MY.fits _)) (Nat.le_trans l1 (by omega))))
    | (go_at_call 105;exact He (IP (D2'.below (MY.is _) hle) (Nat.le_trans hle (MY.fits _)) (Nat.le_trans l2 (by omega)))))))
  refine wpQuiet_nil ?_
  intro w2 hw'
  obtain ⟨⟨_,hb2,hz2⟩,rfl⟩:=hw'
  have s0:=r0.below hb2 (by omega)
  have s1:=r1.below hb2 (by omega)
  have s2:=r2.below hb2 (by omega)
  have b2:=b0.trans (hb2.mono (by omega))
  replace D1':=D1'.below hb2 hle
  replace D2':=D2'.below hb2 hle
  clear r0 r1 r2 b0 a0 a1 a2 e0 e1 e2 hWs hz hb2
  have a0:w2.cell? ⟨w.heap.size,0,none⟩=some (.bool nb1):=s0.cell 0
  have a1:w2.cell? ⟨w.heap.size,1,none⟩=some (.slice A1 L1 c1):=s0.cell 1
  have a2:w2.cell? ⟨w.heap.size,2,none⟩=some (.int .i64 (dx:Int)):=s0.cell 2
  have e0:w2.cell? ⟨w.heap.size+1,0,none⟩=some (.bool nb2):=s1.cell 0
  have e1:w2.cell? ⟨w.heap.size+1,1,none⟩=some (.slice A2 L2 c2):=s1.cell 1
  have e2:w2.cell? ⟨w.heap.size+1,2,none⟩=some (.int .i64 (dy:Int)):=s1.cell 2
  have f0:=s0.free
  have f1:=s1.free
  have hd1:=HD1.out.2.2.2.2.2.1
  have hd2:=HD2.out.2.2.2.2.2.1
  obtain ⟨D,hD⟩:∃ D:Nat,D=max dx dy:=⟨_,rfl⟩
  have hDD:max (dx:Int) (dy:Int)=(D:Int):=by omega
  have hD6:D≤65536:=by omega
  obtain ⟨p,hp⟩:∃ p:Nat,p=D - dx:=⟨_,rfl⟩
  obtain ⟨q,hq⟩:∃ q:Nat,q=D - dy:=⟨_,rfl⟩
  have hpp:IntKind.i64.wrap ((D:Int) - (dx:Int))=(p:Int):=by rw [IntKind.wrap_i64];omega
  have hqq:IntKind.i64.wrap ((D:Int) - (dy:Int))=(q:Int):=by rw [IntKind.wrap_i64];omega
  have hp6:p≤65536:=by omega
  have hq6:q≤65536:=by omega
  have HV := Lib.hid (show Cw x dx y dy = nf (x * 2 ^ p + y * 2 ^ q) D by unfold Cw; rw [← hD, ← hp, ← hq])
  have hp6':p≤1000000:=by omega
  have hq6':q≤1000000:=by omega
  clear hD hp hq
  go_wp2_with fail
  obtain ⟨W,hW⟩:∃ W,W=(((((w2.setCell ⟨w.heap.size,0,none⟩ (.bool nb1)).setCell ⟨w.heap.size,1,none⟩ (.slice A1 L1 c1)).setCell ⟨w.heap.size,2,none⟩ (.int .i64 (dx:Int))).setCell ⟨w.heap.size+1,0,none⟩ (.bool nb2)).setCell ⟨w.heap.size+1,1,none⟩ (.slice A2 L2 c2)).setCell ⟨w.heap.size+1,2,none⟩ (.int .i64 (dy:Int)):=⟨_,rfl⟩
  rw [←hW]
  have t0:Bh W w.heap.size [.bool nb1,.slice A1 L1 c1,.int .i64 (dx:Int)] 43:=by
    rw [hW]
    exact ((((((s0.set_ 0 _).set_ 1 _).set_ 2 _).other_ (by omega) _ _).other_ (by omega) _ _).other_ (by omega) _ _)
  have t1:Bh W (w.heap.size+1) [.bool nb2,.slice A2 L2 c2,.int .i64 (dy:Int)] 43:=by
    rw [hW]
    exact ((((((s1.other_ (by omega) _ _).other_ (by omega) _ _).other_ (by omega) _ _).set_ 0 _).set_ 1 _).set_ 2 _)
  have t2:Bh W (w.heap.size+2) [.bool false,.slice none 0 0,.int .i64 0] 43:=by
    rw [hW]
    exact ((((((s2.other_ (by omega) _ _).other_ (by omega) _ _).other_ (by omega) _ _).other_ (by omega) _ _).other_ (by omega) _ _).other_ (by omega) _ _)
  have b0:Below w.heap.size w W:=by
    rw [hW]
    exact (((((b2.setCell (by simp) _).setCell (by simp) _).setCell (by simp) _).setCell (by simp) _).setCell (by simp) _).setCell (by simp) _
  have hWs:w.heap.size+3≤W.heap.size:=by rw [hW];simpa using hz2
  have bW:Below w.heap.size w2 W:=by
    rw [hW]
    exact ((((((Below.refl _ w2).setCell (by simp) _).setCell (by simp) _).setCell (by simp) _).setCell (by simp) _).setCell (by simp) _).setCell (by simp) _
  have X1:WdR W m (.slice A1 L1 c1) x.natAbs:=D1'.words.below bW hm
  have X2:WdR W m (.slice A2 L2 c2) y.natAbs:=D2'.words.below bW hm
  clear hW bW s0 s1 s2 b2 a0 a1 a2 e0 e1 e2 f0 f1 D1' D2'
  have a0:W.cell? ⟨w.heap.size,0,none⟩=some (.bool nb1):=t0.cell 0
  have a1:W.cell? ⟨w.heap.size,1,none⟩=some (.slice A1 L1 c1):=t0.cell 1
  have a2:W.cell? ⟨w.heap.size,2,none⟩=some (.int .i64 (dx:Int)):=t0.cell 2
  have e0:W.cell? ⟨w.heap.size+1,0,none⟩=some (.bool nb2):=t1.cell 0
  have e1:W.cell? ⟨w.heap.size+1,1,none⟩=some (.slice A2 L2 c2):=t1.cell 1
  have e2:W.cell? ⟨w.heap.size+1,2,none⟩=some (.int .i64 (dy:Int)):=t1.cell 2
  have hk:SK W (w.heap.size+2) (w.heap.size+2) W:=SK.refl (by omega) ⟨_,_,_,t2⟩
  go_cut [6,7] (fun s6 s7 wx=>∃ A6 L6 c6 A7 L7 c7,s6=.slice A6 L6 c6∧s7=.slice A7 L7 c7∧WdR wx wx.heap.size (.slice A6 L6 c6) (x.natAbs*2 ^ p)∧WdR wx wx.heap.size (.slice A7 L7 c7) (y.natAbs*2 ^ q)∧SK W (w.heap.size+2) (w.heap.size+2) wx)
  case first =>
    go_region_held3 (fun w'=>(∀ b o,b<w.heap.size+2→w'.cell? ⟨b,o,none⟩=W.cell? ⟨b,o,none⟩)∧SK W (w.heap.size+2) (w.heap.size+2) w')
      (first
      | (refine SK.all ?_
         first
           | assumption
           | exact hk
           | exact hk.drew
           | exact ((SK.set (by assumption) (by omega) _ _).set (by omega) _ _).set (by omega) _ _))
      (first
        | (go_at_call_of 106 (Value.slice A1 L1 c1);refine (Wz (X1.below (SK.is (m:=w.heap.size+2) (r:=w.heap.size+2) (by first|exact hk|exact hk.drew|assumption)) hle2) ?_ ?_ hp6').mono ?_;exact (Nat.le_trans hle2 (SK.fits (m:=w.heap.size+2) (r:=w.heap.size+2) (by first|exact hk|exact hk.drew|assumption)));exact (by omega);(rintro e w5 ⟨v5,rfl,Y1,hb5⟩;have hk5:=SK.call (W:=W) (m:=w.heap.size+2) (r:=w.heap.size+2) (by first|exact hk|exact hk.drew|assumption) hb5;obtain ⟨A5,L5,c5,rfl⟩:=Y1.form))
        | (go_at_call_of 106 (Value.slice A2 L2 c2);refine (Wz (X2.below (SK.is (m:=w.heap.size+2) (r:=w.heap.size+2) (by first|exact hk|exact hk.drew|assumption)) hle2) ?_ ?_ hq6').mono ?_;exact (Nat.le_trans hle2 (SK.fits (m:=w.heap.size+2) (r:=w.heap.size+2) (by first|exact hk|exact hk.drew|assumption)));exact (by omega);(rintro e w4 ⟨v4,rfl,Y2,hb4⟩;have hk4:=SK.call (W:=W) (m:=w.heap.size+2) (r:=w.heap.size+2) (by first|exact hk|exact hk.drew|assumption) hb4;obtain ⟨A4,L4,c4,rfl⟩:=Y2.form)))
    all_goals (go_wp2_with fail;go_meet;exact ⟨A5,L5,c5,A4,L4,c4,rfl,rfl,(Y1.below hb4 (Nat.le_refl _)).more hb4.size,Y2,hk4⟩)
  case rest =>
    obtain ⟨A6,L6,c6,A7,L7,c7,rfl,rfl,Y1,Y2,hkx⟩:=hcut
    have g0:wc.cell? ⟨w.heap.size,0,none⟩=some (.bool nb1):=(hkx.all.1 _ _ (by omega)).trans a0
    have g1:wc.cell? ⟨w.heap.size+1,0,none⟩=some (.bool nb2):=(hkx.all.1 _ _ (by omega)).trans e0
    obtain ⟨a,ha⟩:∃ a,a=x.natAbs*2 ^ p:=⟨_,rfl⟩
    obtain ⟨b,hb⟩:∃ b,b=y.natAbs*2 ^ q:=⟨_,rfl⟩
    have hx:=Sf x p
    have hy:=Sf y q
    rw [←HD1.out.1,←ha] at hx
    rw [←HD2.out.1,←hb] at hy
    have hla:(Ad a).length≤60000:=by
      have:=Bz x.natAbs p
      rw [←ha] at this
      omega
    have hlb:(Ad b).length≤60000:=by
      have:=Bz y.natAbs q
      rw [←hb] at this
      omega
    rw [←ha] at Y1
    rw [←hb] at Y2
    have HX:=Lib.hid hx
    have HY:=Lib.hid hy
    clear ha hb hx hy X1 X2 hle hle2
    by_cases hn:nb1=nb2
    · as_aux_lemma =>
      subst hn
      have hlen:(Ad (a+b)).length≤100000:=by have:=DA a b;omega
      have hval:nf (sg nb1 (a+b)) D=Cw x dx y dy:=by rw [AaM,HX.out,HY.out,HV.out]
      have HVAL:=Lib.hid hval
      clear hval
      go_wp2_with fail
      obtain ⟨wv,hwv⟩:∃ wv,wv=wc:=⟨_,rfl⟩
      rw [←hwv]
      rw [←hwv] at Y1 Y2 hkx g0 g1
      have hkv:=hkx
      clear hwv hkx
      go_region_held3 (fun w'=>(∀ b o,b<w.heap.size+2→w'.cell? ⟨b,o,none⟩=W.cell? ⟨b,o,none⟩)∧SK W (w.heap.size+2) (w.heap.size+2) w')
        (first
          | (refine SK.all ?_
             first
               | assumption
               | exact hkv
               | exact hkv.drew
               | exact ((SK.set (by assumption) (by omega) _ _).set (by omega) _ _).set (by omega) _ _))
        (first
          | (go_at_call 108;refine (Aaj (Y1.below (Below.refl _ wv).drew (Nat.le_refl _)) (Y2.below (Below.refl _ wv).drew (Nat.le_refl _)) (Nat.le_refl _) (Nat.le_refl _) (by omega) (by omega)).mono ?_;(rintro e w5 ⟨v5,rfl,D5,hb5⟩;have hk5:=SK.call (W:=W) (m:=w.heap.size+2) (r:=w.heap.size+2) (by first|exact hkv.drew|assumption) hb5;have hf5:=hk5.lt;obtain ⟨A5,L5,c5,rfl⟩:=D5.form))
          | (go_at_call 107;refine (Ek D5 (Nat.le_refl _) hlen hD6).mono ?_;(rintro e w6 ⟨v6,rfl,D6,hb6⟩;have hk6:=SK.call hk5 hb6;have hf6:=hk6.lt;rw [HVAL.out] at D6;obtain ⟨nb6,A9,L9,c9,rfl,_⟩:=D6.form;obtain ⟨z0,z1,z2,rz,k0,k1,k2,kf⟩:=SK.cells hk6)))
      go_wp2_with fail
      refine bodyPost_ret (Rn rfl (((rz.set_ 0 _).set_ 1 _).set_ 2 _)) rfl ⟨_,rfl,?_,(((b0.trans (hk6.is.mono (by omega))).setCell (by simp;omega) _).setCell (by simp;omega) _).setCell (by simp;omega) _⟩
      exact ((((D6.set_ (by omega) 0 _).set_ (by omega) 1 _).set_ (by omega) 2 _).low (by omega)).more (by simp)
    · have hne:(nb1 == nb2)=false:=by simpa using hn
      have HN:=Lib.hid hn
      clear hn
      go_wp2_with fail
      go_at_call 109
      refine (Aer Y1 Y2 (by omega) (by omega)).mono ?_
      rintro e w4 ⟨rfl,hb4⟩
      have hkv:=hkx.call hb4
      have g0':w4.cell? ⟨w.heap.size,0,none⟩=some (.bool nb1):=(hkv.all.1 _ _ (by omega)).trans a0
      have g1':w4.cell? ⟨w.heap.size+1,0,none⟩=some (.bool nb2):=(hkv.all.1 _ _ (by omega)).trans e0
      replace Y1:=(Y1.below hb4 (Nat.le_refl _)).more hb4.size
      replace Y2:=(Y2.below hb4 (Nat.le_refl _)).more hb4.size
      clear hkx hb4 g0 g1
      obtain ⟨wv,hwv⟩:∃ wv,wv=w4:=⟨_,rfl⟩
      rw [←hwv]
      rw [←hwv] at Y1 Y2 hkv g0' g1'
      clear hwv
      by_cases hlt:a<b
      · as_aux_lemma =>
        have hlen:(Ad (b - a)).length≤100000:=Nat.le_trans (AX (Nat.sub_le _ _)) (by omega)
        have hval:nf (sg nb2 (b - a)) D=Cw x dx y dy:=by rw [AaN HN.out hlt,HX.out,HY.out,HV.out]
        have HVAL:=Lib.hid hval
        rw [decide_eq_true hlt]
        have hle:a≤b:=by omega
        clear hval hlt
        go_wp2_with fail
        go_region_held3 (fun w'=>(∀ b o,b<w.heap.size+2→w'.cell? ⟨b,o,none⟩=W.cell? ⟨b,o,none⟩)∧SK W (w.heap.size+2) (w.heap.size+2) w')
          (first
            | (refine SK.all ?_
               first
                 | assumption
                 | exact hkv
                 | exact hkv.drew
                 | exact ((SK.set (by assumption) (by omega) _ _).set (by omega) _ _).set (by omega) _ _))
          (first
            | (go_at_call 110;refine (WA (Y2.below (Below.refl _ wv).drew (Nat.le_refl _)) (Y1.below (Below.refl _ wv).drew (Nat.le_refl _)) (Nat.le_refl _) (Nat.le_refl _) (by omega) hle).mono ?_;(rintro e w5 ⟨v5,rfl,D5,hb5⟩;have hk5:=SK.call (W:=W) (m:=w.heap.size+2) (r:=w.heap.size+2) (by first|exact hkv.drew|assumption) hb5;have hf5:=hk5.lt;obtain ⟨A5,L5,c5,rfl⟩:=D5.form))
            | (go_at_call 107;refine (Ek D5 (Nat.le_refl _) hlen hD6).mono ?_;(rintro e w6 ⟨v6,rfl,D6,hb6⟩;have hk6:=SK.call hk5 hb6;have hf6:=hk6.lt;rw [HVAL.out] at D6;obtain ⟨nb6,A9,L9,c9,rfl,_⟩:=D6.form;obtain ⟨z0,z1,z2,rz,k0,k1,k2,kf⟩:=SK.cells hk6)))
        go_wp2_with fail
        refine bodyPost_ret (Rn rfl (((rz.set_ 0 _).set_ 1 _).set_ 2 _)) rfl ⟨_,rfl,?_,(((b0.trans (hk6.is.mono (by omega))).setCell (by simp;omega) _).setCell (by simp;omega) _).setCell (by simp;omega) _⟩
        exact ((((D6.set_ (by omega) 0 _).set_ (by omega) 1 _).set_ (by omega) 2 _).low (by omega)).more (by simp)
      · as_aux_lemma =>
        have hlen:(Ad (a - b)).length≤100000:=Nat.le_trans (AX (Nat.sub_le _ _)) (by omega)
        have hval:nf (sg nb1 (a - b)) D=Cw x dx y dy:=by rw [AaO HN.out (by omega),HX.out,HY.out,HV.out]
        have HVAL:=Lib.hid hval
        rw [decide_eq_false hlt]
        have hle:b≤a:=by omega
        clear hval hlt
        go_wp2_with fail
        go_region_held3 (fun w'=>(∀ b o,b<w.heap.size+2→w'.cell? ⟨b,o,none⟩=W.cell? ⟨b,o,none⟩)∧SK W (w.heap.size+2) (w.heap.size+2) w')
          (first
            | (refine SK.all ?_
               first
                 | assumption
                 | exact hkv
                 | exact hkv.drew
                 | exact ((SK.set (by assumption) (by omega) _ _).set (by omega) _ _).set (by omega) _ _))
          (first
            | (go_at_call 110;refine (WA (Y1.below (Below.refl _ wv).drew (Nat.le_refl _)) (Y2.below (Below.refl _ wv).drew (Nat.le_refl _)) (Nat.le_refl _) (Nat.le_refl _) (by omega) hle).mono ?_;(rintro e w5 ⟨v5,rfl,D5,hb5⟩;have hk5:=SK.call (W:=W) (m:=w.heap.size+2) (r:=w.heap.size+2) (by first|exact hkv.drew|assumption) hb5;have hf5:=hk5.lt;obtain ⟨A5,L5,c5,rfl⟩:=D5.form))
            | (go_at_call 107;refine (Ek D5 (Nat.le_refl _) hlen hD6).mono ?_;(rintro e w6 ⟨v6,rfl,D6,hb6⟩;have hk6:=SK.call hk5 hb6;have hf6:=hk6.lt;rw [HVAL.out] at D6;obtain ⟨nb6,A9,L9,c9,rfl,_⟩:=D6.form;obtain ⟨z0,z1,z2,rz,k0,k1,k2,kf⟩:=SK.cells hk6)))
        go_wp2_with fail
        refine bodyPost_ret (Rn rfl (((rz.set_ 0 _).set_ 1 _).set_ 2 _)) rfl ⟨_,rfl,?_,(((b0.trans (hk6.is.mono (by omega))).setCell (by simp;omega) _).setCell (by simp;omega) _).setCell (by simp;omega) _⟩
        exact ((((D6.set_ (by omega) 0 _).set_ (by omega) 1 _).set_ (by omega) 2 _).low (by omega)).more (by simp)
theorem AbQ {tmps:Array Value} {w:World} {b:Nat} {v0 v1 v2:Value} (h2:tmps.getD 4 undef=.pointer (some ⟨b,0,none⟩)) (hB:Bh w b [v0,v1,v2] 43) :
  (results Tryz.f42 tmps).run Tryz.prog w=.ok (.agg #[v0,v1,v2]) w:=by
 have k0:=hB.cell 0
 have k1:=hB.cell 1
 have k2:=hB.cell 2
 simp at k0 k1 k2
 simp at h2
 simp [results,Tryz.results42,go_sem,h2,k0,k1,k2]
theorem AbR {v v2:Value} {x y:Int} {dx dy lo1 lo2 m:Nat} {w:World} (D1:DyR w lo1 m v x dx) (D2:DyR w lo2 m v2 y dy) (hm:m≤w.heap.size) (l1:(Ad x.natAbs).length≤50000) (l2:(Ad y.natAbs).length≤50000) :
    Calls Tryz.prog 42 #[v,v2] w fun e w'=>∃ v',e=.returned v'∧DyR w' w.heap.size w'.heap.size v' (Cw x dx (-y) dy).1 (Cw x dx (-y) dy).2∧Below w.heap.size w w':=by
  obtain ⟨nb1,A1,L1,c1,rfl,HD1⟩:=D1.form
  obtain ⟨nb2,A2,L2,c2,rfl,HD2⟩:=D2.form
  have b0:Below w.heap.size w (((w.alloc (.cells #[.bool nb1,.slice A1 L1 c1,.int .i64 (dx:Int)] 43)).alloc (.cells #[.bool nb2,.slice A2 L2 c2,.int .i64 (dy:Int)] 43)).alloc (.cells #[.bool false,.slice none 0 0,.int .i64 0] 43)):=Aq (Aq (Aq (Below.refl _ _) _) _) _
  have D1':=D1.below b0 hm
  have D2':=D2.below b0 hm
  clear D1 D2
  have r2:=Bh.new_ ((w.alloc (.cells #[.bool nb1,.slice A1 L1 c1,.int .i64 (dx:Int)] 43)).alloc (.cells #[.bool nb2,.slice A2 L2 c2,.int .i64 (dy:Int)] 43)) [.bool false,.slice none 0 0,.int .i64 0] 43
  have r1:=(Bh.new_ (w.alloc (.cells #[.bool nb1,.slice A1 L1 c1,.int .i64 (dx:Int)] 43)) [.bool nb2,.slice A2 L2 c2,.int .i64 (dy:Int)] 43).call ((Below.refl _ _).alloc (Nat.le_refl _) (.cells #[.bool false,.slice none 0 0,.int .i64 0] 43))
  have r0:=((Bh.new_ w [.bool nb1,.slice A1 L1 c1,.int .i64 (dx:Int)] 43).call ((Below.refl _ _).alloc (Nat.le_refl _) (.cells #[.bool nb2,.slice A2 L2 c2,.int .i64 (dy:Int)] 43))).call ((Below.refl _ _).alloc (Nat.le_refl _) (.cells #[.bool false,.slice none 0 0,.int .i64 0] 43))
  rw [show ((w.alloc (.cells #[.bool nb1,.slice A1 L1 c1,.int .i64 (dx:Int)] 43)).alloc (.cells #[.bool nb2,.slice A2 L2 c2,.int .i64 (dy:Int)] 43)).heap.size=w.heap.size+2 by simp] at r2
  rw [show (w.alloc (.cells #[.bool nb1,.slice A1 L1 c1,.int .i64 (dx:Int)] 43)).heap.size=w.heap.size+1 by simp] at r1
  go_enter Tryz.func42,Tryz.ntmps42
  go_wp2_with fail
  obtain ⟨W,hW⟩:∃ W,W=(((w.alloc (.cells #[.bool nb1,.slice A1 L1 c1,.int .i64 (dx:Int)] 43)).alloc (.cells #[.bool nb2,.slice A2 L2 c2,.int .i64 (dy:Int)] 43)).alloc (.cells #[.bool false,.slice none 0 0,.int .i64 0] 43)):=⟨_,rfl⟩
  have hWs:W.heap.size=w.heap.size+3:=by rw [hW];simp
  rw [←hW]
  rw [←hW] at b0 D1' D2' r0 r1 r2
  clear hW
  have a0:W.cell? ⟨w.heap.size,0,none⟩=some (.bool nb1):=r0.cell 0
  have a1:W.cell? ⟨w.heap.size,1,none⟩=some (.slice A1 L1 c1):=r0.cell 1
  have a2:W.cell? ⟨w.heap.size,2,none⟩=some (.int .i64 (dx:Int)):=r0.cell 2
  have e0:W.cell? ⟨w.heap.size+1,0,none⟩=some (.bool nb2):=r1.cell 0
  have e1:W.cell? ⟨w.heap.size+1,1,none⟩=some (.slice A2 L2 c2):=r1.cell 1
  have e2:W.cell? ⟨w.heap.size+1,2,none⟩=some (.int .i64 (dy:Int)):=r1.cell 2
  have hk:SK W (w.heap.size+2) (w.heap.size+2) W:=SK.refl (by omega) ⟨_,_,_,r2⟩
  have hle:m≤w.heap.size+2:=by omega
  go_region_held3 (fun w'=>(∀ b o,b<w.heap.size+2→w'.cell? ⟨b,o,none⟩=W.cell? ⟨b,o,none⟩)∧SK W (w.heap.size+2) (w.heap.size+2) w')
    (first
      | (refine SK.all ?_
         first
           | assumption
           | exact hk
           | exact hk.drew
           | exact ((SK.set (by assumption) (by omega) _ _).set (by omega) _ _).set (by omega) _ _))
    (first
      | (go_at_call 112; refine (Aep (D2'.below (SK.is (m := w.heap.size + 2) (r := w.heap.size + 2) (by first | exact hk.drew | assumption)) hle) ?_ ?_).mono ?_; (simp; omega); exact (by omega); (rintro e w5 ⟨v5, rfl, D5, hb5⟩; have hk5 := SK.call (W := W) (m := w.heap.size + 2) (r := w.heap.size + 2) (by first | exact hk.drew | assumption) hb5; have hf5 := hk5.lt; obtain ⟨nb5, A5, L5, c5, rfl, _⟩ := D5.form))
      | (go_at_call 37; refine (Mu (D1'.below (SK.is (m := w.heap.size + 2) (r := w.heap.size + 2) hk5) hle) D5 ?_ ?_ ?_ ?_).mono ?_; exact (by omega); exact (Nat.le_refl _); exact l1; (rw [Int.natAbs_neg]; exact l2); (rintro e w6 ⟨v6, rfl, D6, hb6⟩; have hk6 := SK.call hk5 hb6; have hf6 := hk6.lt; have hlo := hf5; obtain ⟨nb6, A6, L6, c6, rfl, _⟩ := D6.form; obtain ⟨z0, z1, z2, rz, k0, k1, k2, kf⟩ := SK.cells hk6)))
  go_wp2_with fail
  refine bodyPost_ret (AbQ rfl (((rz.set_ 0 _).set_ 1 _).set_ 2 _)) rfl ⟨_,rfl,?_,(((b0.trans (hk6.is.mono (by omega))).setCell (by simp;omega) _).setCell (by simp;omega) _).setCell (by simp;omega) _⟩
  exact ((((D6.set_ (by omega) 0 _).set_ (by omega) 1 _).set_ (by omega) 2 _).low (by omega)).more (by simp)
theorem Ro {v v2:Value} {x y:Int} {dx dy lo1 lo2 m:Nat} {w:World} (D1:DyR w lo1 m v x dx) (D2:DyR w lo2 m v2 y dy) (hm:m≤w.heap.size) (l1:(Ad x.natAbs).length≤50000) (l2:(Ad y.natAbs).length≤50000) :
  Calls Tryz.prog 29 #[v,v2] w fun e w'=>e=.returned (.int .i64 (Cl x dx y dy))∧Below w.heap.size w w':=by
 have hlen:(Ad (Cw x dx (-y) dy).1.natAbs).length≤100000:=Vj l1 (by rw [Int.natAbs_neg];exact l2) D1.bound.1 D2.bound.1
 obtain ⟨nb1,A1,L1,c1,rfl,HD1⟩:=D1.form
 obtain ⟨nb2,A2,L2,c2,rfl,HD2⟩:=D2.form
 have b0:Below w.heap.size w ((w.alloc (.cells #[.bool nb1,.slice A1 L1 c1,.int .i64 (dx:Int)] 43)).alloc (.cells #[.bool nb2,.slice A2 L2 c2,.int .i64 (dy:Int)] 43)):=Aq (Aq (Below.refl _ _) _) _
 have D1':=Lib.hid (D1.below b0 hm)
 have D2':=Lib.hid (D2.below b0 hm)
 clear D1 D2
 go_enter Tryz.func29,Tryz.ntmps29
 go_wp2_with fail
 go_at_call 42
 refine (AbR D1'.out D2'.out (by simp;omega) l1 l2).mono ?_
 rintro e w5 ⟨v5,rfl,D5,hb5⟩
 have D5':=Lib.hid D5
 obtain ⟨nb5,A5,L5,c5,rfl,_⟩:=D5.form
 have b5:=b0.trans (hb5.mono (by simp;omega))
 clear D5 hb5
 go_wp2_with fail
 go_at_call 41
 refine (Aeo D5'.out (Nat.le_refl _) hlen).mono ?_
 rintro e w6 ⟨rfl,hb6⟩
 have b6:=b5.trans (hb6.mono (by have:=b5.size;omega))
 go_wp2_with fail
 go_ret
 exact ⟨rfl,b6⟩
theorem WB {tmps:Array Value} {w:World} {b:Nat} {v0 v1 v2:Value} (h2:tmps.getD 4 undef=.pointer (some ⟨b,0,none⟩)) (hB:Bh w b [v0,v1,v2] 43) :
  (results Tryz.f255 tmps).run Tryz.prog w=.ok (.agg #[v0,v1,v2]) w:=by
 have k0:=hB.cell 0
 have k1:=hB.cell 1
 have k2:=hB.cell 2
 simp at k0 k1 k2
 simp at h2
 simp [results,Tryz.results255,go_sem,h2,k0,k1,k2]
theorem AbS {v v2:Value} {x y:Int} {dx dy lo1 lo2 m:Nat} {w:World} (D1:DyR w lo1 m v x dx) (D2:DyR w lo2 m v2 y dy) (hm:m≤w.heap.size) (l1:(Ad x.natAbs).length≤50000) (l2:(Ad y.natAbs).length≤50000) :
  Calls Tryz.prog 255 #[v,v2] w fun e w'=>∃ v',e=.returned v'∧DyR w' w.heap.size w'.heap.size v' (EQ x dx y dy).1 (EQ x dx y dy).2∧Below w.heap.size w w':=by
 have HB1:=D1.bound
 have HB2:=D2.bound
 obtain ⟨nb1,A1,L1,c1,rfl,HD1⟩:=D1.form
 obtain ⟨nb2,A2,L2,c2,rfl,HD2⟩:=D2.form
 have b0:Below w.heap.size w (((w.alloc (.cells #[.bool nb1,.slice A1 L1 c1,.int .i64 (dx:Int)] 43)).alloc (.cells #[.bool nb2,.slice A2 L2 c2,.int .i64 (dy:Int)] 43)).alloc (.cells #[.bool false,.slice none 0 0,.int .i64 0] 43)):=Aq (Aq (Aq (Below.refl _ _) _) _) _
 have D1':=D1.below b0 hm
 have D2':=D2.below b0 hm
 clear D1 D2
 have r2:=Bh.new_ ((w.alloc (.cells #[.bool nb1,.slice A1 L1 c1,.int .i64 (dx:Int)] 43)).alloc (.cells #[.bool nb2,.slice A2 L2 c2,.int .i64 (dy:Int)] 43)) [.bool false,.slice none 0 0,.int .i64 0] 43
 have r1:=(Bh.new_ (w.alloc (.cells #[.bool nb1,.slice A1 L1 c1,.int .i64 (dx:Int)] 43)) [.bool nb2,.slice A2 L2 c2,.int .i64 (dy:Int)] 43).call ((Below.refl _ _).alloc (Nat.le_refl _) (.cells #[.bool false,.slice none 0 0,.int .i64 0] 43))
 have r0:=((Bh.new_ w [.bool nb1,.slice A1 L1 c1,.int .i64 (dx:Int)] 43).call ((Below.refl _ _).alloc (Nat.le_refl _) (.cells #[.bool nb2,.slice A2 L2 c2,.int .i64 (dy:Int)] 43))).call ((Below.refl _ _).alloc (Nat.le_refl _) (.cells #[.bool false,.slice none 0 0,.int .i64 0] 43))
 rw [show ((w.alloc (.cells #[.bool nb1,.slice A1 L1 c1,.int .i64 (dx:Int)] 43)).alloc (.cells #[.bool nb2,.slice A2 L2 c2,.int .i64 (dy:Int)] 43)).heap.size=w.heap.size+2 by simp] at r2
 rw [show (w.alloc (.cells #[.bool nb1,.slice A1 L1 c1,.int .i64 (dx:Int)] 43)).heap.size=w.heap.size+1 by simp] at r1
 go_enter Tryz.func255,Tryz.ntmps255
 go_wp2_with fail
 obtain ⟨W,hW⟩:∃ W,W=(((w.alloc (.cells #[.bool nb1,.slice A1 L1 c1,.int .i64 (dx:Int)] 43)).alloc (.cells #[.bool nb2,.slice A2 L2 c2,.int .i64 (dy:Int)] 43)).alloc (.cells #[.bool false,.slice none 0 0,.int .i64 0] 43)):=⟨_,rfl⟩
 have hWs:W.heap.size=w.heap.size+3:=by rw [hW];simp
 rw [←hW]
 rw [←hW] at b0 D1' D2' r0 r1 r2
 clear hW
 have a0:W.cell? ⟨w.heap.size,0,none⟩=some (.bool nb1):=r0.cell 0
 have a1:W.cell? ⟨w.heap.size,1,none⟩=some (.slice A1 L1 c1):=r0.cell 1
 have a2:W.cell? ⟨w.heap.size,2,none⟩=some (.int .i64 (dx:Int)):=r0.cell 2
 have e0:W.cell? ⟨w.heap.size+1,0,none⟩=some (.bool nb2):=r1.cell 0
 have e1:W.cell? ⟨w.heap.size+1,1,none⟩=some (.slice A2 L2 c2):=r1.cell 1
 have e2:W.cell? ⟨w.heap.size+1,2,none⟩=some (.int .i64 (dy:Int)):=r1.cell 2
 go_at_call 29
 refine (Ro D1' D2' (by omega) l1 l2).mono ?_
 rintro e w2 ⟨rfl,hb2⟩
 have s0:=r0.call hb2
 have s1:=r1.call hb2
 have s2:=r2.call hb2
 have b2:=b0.trans (hb2.mono (by omega))
 replace D1':=D1'.below hb2 (by omega)
 replace D2':=D2'.below hb2 (by omega)
 have hz2:w.heap.size+3≤w2.heap.size:=by have:=hb2.size;omega
 clear r0 r1 r2 b0 a0 a1 a2 e0 e1 e2 hWs hb2
 have a0:w2.cell? ⟨w.heap.size,0,none⟩=some (.bool nb1):=s0.cell 0
 have a1:w2.cell? ⟨w.heap.size,1,none⟩=some (.slice A1 L1 c1):=s0.cell 1
 have a2:w2.cell? ⟨w.heap.size,2,none⟩=some (.int .i64 (dx:Int)):=s0.cell 2
 have e0:w2.cell? ⟨w.heap.size+1,0,none⟩=some (.bool nb2):=s1.cell 0
 have e1:w2.cell? ⟨w.heap.size+1,1,none⟩=some (.slice A2 L2 c2):=s1.cell 1
 have e2:w2.cell? ⟨w.heap.size+1,2,none⟩=some (.int .i64 (dy:Int)):=s1.cell 2
 have f0:=s0.free
 by_cases hc:0<Cl x dx y dy
 ·as_aux_lemma =>
  have HC:=Lib.hid hc
  have hodd:=HB2.2
  obtain ⟨cv,hcv⟩:∃ cv,cv=Cl x dx y dy:=⟨_,rfl⟩
  rw [←hcv] at hc
  rw [←hcv]
  have hcb:decide (0<cv)=true:=decide_eq_true hc
  clear hcv HB1 HB2
  go_wp2_with fail
  go_at_call 37
  obtain ⟨W,hW⟩:∃ W,W=((w2.setCell ⟨w.heap.size,0,none⟩ (.bool nb2)).setCell ⟨w.heap.size,1,none⟩ (.slice A2 L2 c2)).setCell ⟨w.heap.size,2,none⟩ (.int .i64 (dy:Int)):=⟨_,rfl⟩
  have rz:Bh W (w.heap.size+2) [.bool false,.slice none 0 0,.int .i64 0] 43:=by
   rw [hW]
   exact ((s2.other_ (by omega) _ _).other_ (by omega) _ _).other_ (by omega) _ _
  have bW:Below w.heap.size w W:=by
   rw [hW]
   exact ((b2.setCell (by simp) _).setCell (by simp) _).setCell (by simp) _
  have bX:Below w.heap.size w2 W:=by
   rw [hW]
   exact (((Below.refl _ w2).setCell (by simp) _).setCell (by simp) _).setCell (by simp) _
  have hWs:w.heap.size+3≤W.heap.size:=by rw [hW];simpa using hz2
  rw [←hW]
  clear hW s0 s1 s2 a0 a1 a2 e0 e1 e2 f0 b2
  have D0:DyR W 0 0 (.agg #[.bool false,.slice none 0 0,.int .i64 0]) 0 0:=DyR.zero_ _ _ _
  have hk:SK W (w.heap.size+2) (w.heap.size+2) W:=SK.refl (by omega) ⟨_,_,_,rz⟩
  refine (Mu (D2'.below bX hm) D0 (by omega) (by omega) l2 (by simp [AP])).mono ?_
  rintro e w6 ⟨v6,rfl,D6,hb6⟩
  have hk6:=SK.call hk hb6
  rw [Gf hodd] at D6
  have D6':=Lib.hid D6
  obtain ⟨nb6,A6,L6,c6,rfl,_⟩:=D6.form
  have hf6:=hk6.lt
  obtain ⟨z0,z1,z2,rw6,k0,k1,k2,kf⟩:=SK.cells hk6
  have b6:=bW.trans (hb6.mono (by omega))
  clear D6 hb6 hk6 hk rz bW
  go_wp2_with fail
  refine bodyPost_ret (WB rfl (((rw6.set_ 0 _).set_ 1 _).set_ 2 _)) rfl ⟨_,rfl,?_,((b6.setCell (by simp;omega) _).setCell (by simp;omega) _).setCell (by simp;omega) _⟩
  have HE:=((((D6'.out.set_ (b:=w.heap.size+2) (by omega) 0 (.bool nb6)).set_ (b:=w.heap.size+2) (by omega) 1 (.slice A6 L6 c6)).set_ (b:=w.heap.size+2) (by omega) 2 (.int .i64 (dy:Int))).low (show w.heap.size≤W.heap.size by omega))
  have hv:EQ x dx y dy=(y,dy):=by
   unfold EQ
   exact if_pos (by have:=HC.out;omega)
  rw [hv]
  exact HE.more (by simp)
 ·as_aux_lemma =>
  have HC:=Lib.hid hc
  have hodd:=HB1.2
  obtain ⟨cv,hcv⟩:∃ cv,cv=Cl x dx y dy:=⟨_,rfl⟩
  rw [←hcv] at hc
  rw [←hcv]
  have hcb:decide (0<cv)=false:=decide_eq_false hc
  clear hcv HB1 HB2
  go_wp2_with fail
  go_at_call 37
  obtain ⟨W,hW⟩:∃ W,W=w2:=⟨_,rfl⟩
  have rz:=s2
  have bW:=b2
  have hWs:=hz2
  rw [←hW]
  rw [←hW] at rz bW hWs D1' D2'
  clear hW s0 s1 s2 a0 a1 a2 e0 e1 e2 f0 b2
  have D0:DyR W 0 0 (.agg #[.bool false,.slice none 0 0,.int .i64 0]) 0 0:=DyR.zero_ _ _ _
  have hk:SK W (w.heap.size+2) (w.heap.size+2) W:=SK.refl (by omega) ⟨_,_,_,rz⟩
  refine (Mu D1' D0 (by omega) (by omega) l1 (by simp [AP])).mono ?_
  rintro e w6 ⟨v6,rfl,D6,hb6⟩
  have hk6:=SK.call hk hb6
  rw [Gf hodd] at D6
  have D6':=Lib.hid D6
  obtain ⟨nb6,A6,L6,c6,rfl,_⟩:=D6.form
  have hf6:=hk6.lt
  obtain ⟨z0,z1,z2,rw6,k0,k1,k2,kf⟩:=SK.cells hk6
  have b6:=bW.trans (hb6.mono (by omega))
  clear D6 hb6 hk6 hk rz bW
  go_wp2_with fail
  refine bodyPost_ret (WB rfl (((rw6.set_ 0 _).set_ 1 _).set_ 2 _)) rfl ⟨_,rfl,?_,((b6.setCell (by simp;omega) _).setCell (by simp;omega) _).setCell (by simp;omega) _⟩
  have HE:=((((D6'.out.set_ (b:=w.heap.size+2) (by omega) 0 (.bool nb6)).set_ (b:=w.heap.size+2) (by omega) 1 (.slice A6 L6 c6)).set_ (b:=w.heap.size+2) (by omega) 2 (.int .i64 (dx:Int))).low (show w.heap.size≤W.heap.size by omega))
  have hv:EQ x dx y dy=(x,dx):=by
   unfold EQ
   exact if_neg (by have:=HC.out;omega)
  rw [hv]
  exact HE.more (by simp)
theorem WD {tmps:Array Value} {w:World} {b:Nat} {v0 v1 v2:Value} (h2:tmps.getD 4 undef=.pointer (some ⟨b,0,none⟩)) (hB:Bh w b [v0,v1,v2] 43) :
  (results Tryz.f100 tmps).run Tryz.prog w=.ok (.agg #[v0,v1,v2]) w:=by
 have k0:=hB.cell 0
 have k1:=hB.cell 1
 have k2:=hB.cell 2
 simp at k0 k1 k2
 simp at h2
 simp [results,Tryz.results100,go_sem,h2,k0,k1,k2]
theorem AbT {v v2:Value} {x y:Int} {dx dy lo1 lo2 m:Nat} {w:World} (D1:DyR w lo1 m v x dx) (D2:DyR w lo2 m v2 y dy) (hm:m≤w.heap.size) (l1:(Ad x.natAbs).length≤50000) (l2:(Ad y.natAbs).length≤50000) :
  Calls Tryz.prog 100 #[v,v2] w fun e w'=>∃ v',e=.returned v'∧DyR w' w.heap.size w'.heap.size v' (EH x dx y dy).1 (EH x dx y dy).2∧Below w.heap.size w w':=by
 have HB1:=D1.bound
 have HB2:=D2.bound
 obtain ⟨nb1,A1,L1,c1,rfl,HD1⟩:=D1.form
 obtain ⟨nb2,A2,L2,c2,rfl,HD2⟩:=D2.form
 have b0:Below w.heap.size w (((w.alloc (.cells #[.bool nb1,.slice A1 L1 c1,.int .i64 (dx:Int)] 43)).alloc (.cells #[.bool nb2,.slice A2 L2 c2,.int .i64 (dy:Int)] 43)).alloc (.cells #[.bool false,.slice none 0 0,.int .i64 0] 43)):=Aq (Aq (Aq (Below.refl _ _) _) _) _
 have D1':=D1.below b0 hm
 have D2':=D2.below b0 hm
 clear D1 D2
 have r2:=Bh.new_ ((w.alloc (.cells #[.bool nb1,.slice A1 L1 c1,.int .i64 (dx:Int)] 43)).alloc (.cells #[.bool nb2,.slice A2 L2 c2,.int .i64 (dy:Int)] 43)) [.bool false,.slice none 0 0,.int .i64 0] 43
 have r1:=(Bh.new_ (w.alloc (.cells #[.bool nb1,.slice A1 L1 c1,.int .i64 (dx:Int)] 43)) [.bool nb2,.slice A2 L2 c2,.int .i64 (dy:Int)] 43).call ((Below.refl _ _).alloc (Nat.le_refl _) (.cells #[.bool false,.slice none 0 0,.int .i64 0] 43))
 have r0:=((Bh.new_ w [.bool nb1,.slice A1 L1 c1,.int .i64 (dx:Int)] 43).call ((Below.refl _ _).alloc (Nat.le_refl _) (.cells #[.bool nb2,.slice A2 L2 c2,.int .i64 (dy:Int)] 43))).call ((Below.refl _ _).alloc (Nat.le_refl _) (.cells #[.bool false,.slice none 0 0,.int .i64 0] 43))
 rw [show ((w.alloc (.cells #[.bool nb1,.slice A1 L1 c1,.int .i64 (dx:Int)] 43)).alloc (.cells #[.bool nb2,.slice A2 L2 c2,.int .i64 (dy:Int)] 43)).heap.size=w.heap.size+2 by simp] at r2
 rw [show (w.alloc (.cells #[.bool nb1,.slice A1 L1 c1,.int .i64 (dx:Int)] 43)).heap.size=w.heap.size+1 by simp] at r1
 go_enter Tryz.func100,Tryz.ntmps100
 go_wp2_with fail
 obtain ⟨W,hW⟩:∃ W,W=(((w.alloc (.cells #[.bool nb1,.slice A1 L1 c1,.int .i64 (dx:Int)] 43)).alloc (.cells #[.bool nb2,.slice A2 L2 c2,.int .i64 (dy:Int)] 43)).alloc (.cells #[.bool false,.slice none 0 0,.int .i64 0] 43)):=⟨_,rfl⟩
 have hWs:W.heap.size=w.heap.size+3:=by rw [hW];simp
 rw [←hW]
 rw [←hW] at b0 D1' D2' r0 r1 r2
 clear hW
 have a0:W.cell? ⟨w.heap.size,0,none⟩=some (.bool nb1):=r0.cell 0
 have a1:W.cell? ⟨w.heap.size,1,none⟩=some (.slice A1 L1 c1):=r0.cell 1
 have a2:W.cell? ⟨w.heap.size,2,none⟩=some (.int .i64 (dx:Int)):=r0.cell 2
 have e0:W.cell? ⟨w.heap.size+1,0,none⟩=some (.bool nb2):=r1.cell 0
 have e1:W.cell? ⟨w.heap.size+1,1,none⟩=some (.slice A2 L2 c2):=r1.cell 1
 have e2:W.cell? ⟨w.heap.size+1,2,none⟩=some (.int .i64 (dy:Int)):=r1.cell 2
 go_at_call 29
 refine (Ro D1' D2' (by omega) l1 l2).mono ?_
 rintro e w2 ⟨rfl,hb2⟩
 have s0:=r0.call hb2
 have s1:=r1.call hb2
 have s2:=r2.call hb2
 have b2:=b0.trans (hb2.mono (by omega))
 replace D1':=D1'.below hb2 (by omega)
 replace D2':=D2'.below hb2 (by omega)
 have hz2:w.heap.size+3≤w2.heap.size:=by have:=hb2.size;omega
 clear r0 r1 r2 b0 a0 a1 a2 e0 e1 e2 hWs hb2
 have a0:w2.cell? ⟨w.heap.size,0,none⟩=some (.bool nb1):=s0.cell 0
 have a1:w2.cell? ⟨w.heap.size,1,none⟩=some (.slice A1 L1 c1):=s0.cell 1
 have a2:w2.cell? ⟨w.heap.size,2,none⟩=some (.int .i64 (dx:Int)):=s0.cell 2
 have e0:w2.cell? ⟨w.heap.size+1,0,none⟩=some (.bool nb2):=s1.cell 0
 have e1:w2.cell? ⟨w.heap.size+1,1,none⟩=some (.slice A2 L2 c2):=s1.cell 1
 have e2:w2.cell? ⟨w.heap.size+1,2,none⟩=some (.int .i64 (dy:Int)):=s1.cell 2
 have f0:=s0.free
 by_cases hc:Cl x dx y dy<0
 ·as_aux_lemma =>
  have HC:=Lib.hid hc
  have hodd:=HB2.2
  obtain ⟨cv,hcv⟩:∃ cv,cv=Cl x dx y dy:=⟨_,rfl⟩
  rw [←hcv] at hc
  rw [←hcv]
  have hcb:decide (cv<0)=true:=decide_eq_true hc
  clear hcv HB1 HB2
  go_wp2_with fail
  go_at_call 37
  obtain ⟨W,hW⟩:∃ W,W=((w2.setCell ⟨w.heap.size,0,none⟩ (.bool nb2)).setCell ⟨w.heap.size,1,none⟩ (.slice A2 L2 c2)).setCell ⟨w.heap.size,2,none⟩ (.int .i64 (dy:Int)):=⟨_,rfl⟩
  have rz:Bh W (w.heap.size+2) [.bool false,.slice none 0 0,.int .i64 0] 43:=by
   rw [hW]
   exact ((s2.other_ (by omega) _ _).other_ (by omega) _ _).other_ (by omega) _ _
  have bW:Below w.heap.size w W:=by
   rw [hW]
   exact ((b2.setCell (by simp) _).setCell (by simp) _).setCell (by simp) _
  have bX:Below w.heap.size w2 W:=by
   rw [hW]
   exact (((Below.refl _ w2).setCell (by simp) _).setCell (by simp) _).setCell (by simp) _
  have hWs:w.heap.size+3≤W.heap.size:=by rw [hW];simpa using hz2
  rw [←hW]
  clear hW s0 s1 s2 a0 a1 a2 e0 e1 e2 f0 b2
  have D0:DyR W 0 0 (.agg #[.bool false,.slice none 0 0,.int .i64 0]) 0 0:=DyR.zero_ _ _ _
  have hk:SK W (w.heap.size+2) (w.heap.size+2) W:=SK.refl (by omega) ⟨_,_,_,rz⟩
  refine (Mu (D2'.below bX hm) D0 (by omega) (by omega) l2 (by simp [AP])).mono ?_
  rintro e w6 ⟨v6,rfl,D6,hb6⟩
  have hk6:=SK.call hk hb6
  rw [Gf hodd] at D6
  have D6':=Lib.hid D6
  obtain ⟨nb6,A6,L6,c6,rfl,_⟩:=D6.form
  have hf6:=hk6.lt
  obtain ⟨z0,z1,z2,rw6,k0,k1,k2,kf⟩:=SK.cells hk6
  have b6:=bW.trans (hb6.mono (by omega))
  clear D6 hb6 hk6 hk rz bW
  go_wp2_with fail
  refine bodyPost_ret (WD rfl (((rw6.set_ 0 _).set_ 1 _).set_ 2 _)) rfl ⟨_,rfl,?_,((b6.setCell (by simp;omega) _).setCell (by simp;omega) _).setCell (by simp;omega) _⟩
  have HE:=((((D6'.out.set_ (b:=w.heap.size+2) (by omega) 0 (.bool nb6)).set_ (b:=w.heap.size+2) (by omega) 1 (.slice A6 L6 c6)).set_ (b:=w.heap.size+2) (by omega) 2 (.int .i64 (dy:Int))).low (show w.heap.size≤W.heap.size by omega))
  have hv:EH x dx y dy=(y,dy):=by
   unfold EH
   exact if_pos (by have:=HC.out;omega)
  rw [hv]
  exact HE.more (by simp)
 ·as_aux_lemma =>
  have HC:=Lib.hid hc
  have hodd:=HB1.2
  obtain ⟨cv,hcv⟩:∃ cv,cv=Cl x dx y dy:=⟨_,rfl⟩
  rw [←hcv] at hc
  rw [←hcv]
  have hcb:decide (cv<0)=false:=decide_eq_false hc
  clear hcv HB1 HB2
  go_wp2_with fail
  go_at_call 37
  obtain ⟨W,hW⟩:∃ W,W=w2:=⟨_,rfl⟩
  have rz:=s2
  have bW:=b2
  have hWs:=hz2
  rw [←hW]
  rw [←hW] at rz bW hWs D1' D2'
  clear hW s0 s1 s2 a0 a1 a2 e0 e1 e2 f0 b2
  have D0:DyR W 0 0 (.agg #[.bool false,.slice none 0 0,.int .i64 0]) 0 0:=DyR.zero_ _ _ _
  have hk:SK W (w.heap.size+2) (w.heap.size+2) W:=SK.refl (by omega) ⟨_,_,_,rz⟩
  refine (Mu D1' D0 (by omega) (by omega) l1 (by simp [AP])).mono ?_
  rintro e w6 ⟨v6,rfl,D6,hb6⟩
  have hk6:=SK.call hk hb6
  rw [Gf hodd] at D6
  have D6':=Lib.hid D6
  obtain ⟨nb6,A6,L6,c6,rfl,_⟩:=D6.form
  have hf6:=hk6.lt
  obtain ⟨z0,z1,z2,rw6,k0,k1,k2,kf⟩:=SK.cells hk6
  have b6:=bW.trans (hb6.mono (by omega))
  clear D6 hb6 hk6 hk rz bW
  go_wp2_with fail
  refine bodyPost_ret (WD rfl (((rw6.set_ 0 _).set_ 1 _).set_ 2 _)) rfl ⟨_,rfl,?_,((b6.setCell (by simp;omega) _).setCell (by simp;omega) _).setCell (by simp;omega) _⟩
  have HE:=((((D6'.out.set_ (b:=w.heap.size+2) (by omega) 0 (.bool nb6)).set_ (b:=w.heap.size+2) (by omega) 1 (.slice A6 L6 c6)).set_ (b:=w.heap.size+2) (by omega) 2 (.int .i64 (dx:Int))).low (show w.heap.size≤W.heap.size by omega))
  have hv:EH x dx y dy=(x,dx):=by
   unfold EH
   exact if_neg (by have:=HC.out;omega)
  rw [hv]
  exact HE.more (by simp)
theorem Qi {tmps:Array Value} {w:World} {b:Nat} {v0 v1 v2:Value} (h2:tmps.getD 4 undef=.pointer (some ⟨b,0,none⟩)) (hB:Bh w b [v0,v1,v2] 43) :
  (results Tryz.f38 tmps).run Tryz.prog w=.ok (.agg #[v0,v1,v2]) w:=by
 have k0:=hB.cell 0
 have k1:=hB.cell 1
 have k2:=hB.cell 2
 simp at k0 k1 k2
 simp at h2
 simp [results,Tryz.results38,go_sem,h2,k0,k1,k2]
theorem Ul {v:Value} {x:Int} {d lo m:Nat} {n:Int} {w:World} (D:DyR w lo m v x d) (hm:m≤w.heap.size) (hl:(Ad x.natAbs).length≤50000) (hd:(d:Int) - max (-65536) (min n 65536)≤65536) :
    Calls Tryz.prog 38 #[v,.int .i64 n] w fun e w'=>∃ v',e=.returned v'∧DyR w' w.heap.size w'.heap.size v' (Ai x d n).1 (Ai x d n).2∧Below w.heap.size w w':=by
  obtain ⟨nn,hnn⟩:∃ nn:Int,max (-65536) (min n 65536)=nn:=⟨_,rfl⟩
  have hb1 : -65536≤nn:=by omega
  have hb2:nn≤65536:=by omega
  rw [hnn] at hd
  by_cases hneg:nn<0
  · as_aux_lemma =>
    obtain ⟨p,hp⟩:∃ p:Nat,p=d+(-nn).toNat:=⟨_,rfl⟩
    have HV := Lib.hid (show Ai x d n = nf x p by unfold Ai; rw [hnn, if_pos hneg, ← hp])
    have hpp:(d:Int) - nn=(p:Int):=by omega
    have hp6:p≤65536:=by omega
    clear hp
    obtain ⟨nb,A,L,c,rfl,HD⟩:=D.form
    have D':=Lib.hid D
    clear D
    have b0:Below w.heap.size w ((w.alloc (.cells #[.bool nb,.slice A L c,.int .i64 (d:Int)] 43)).alloc (.cells #[.bool false,.slice none 0 0,.int .i64 0] 43)):=Aq (Aq (Below.refl _ _) _) _
    have r0:=(Bh.new_ w [.bool nb,.slice A L c,.int .i64 (d:Int)] 43).call ((Below.refl _ _).alloc (Nat.le_refl _) (.cells #[.bool false,.slice none 0 0,.int .i64 0] 43))
    have r1:=(Bh.new_ (w.alloc (.cells #[.bool nb,.slice A L c,.int .i64 (d:Int)] 43)) [.bool false,.slice none 0 0,.int .i64 0] 43)
    rw [show (w.alloc (.cells #[.bool nb,.slice A L c,.int .i64 (d:Int)] 43)).heap.size=w.heap.size+1 by simp] at r1
    go_enter Tryz.func38,Tryz.ntmps38
    go_wp2_with fail
    go_at_call 105
    refine (IP (D'.out.below b0 hm) (by simp;omega) (by omega)).mono ?_
    rintro e w1 ⟨rfl,hb⟩
    have s0:=r0.below hb (by simp;omega)
    have s1:=r1.below hb (by simp)
    have b1:=b0.trans (hb.mono (by simp;omega))
    have D1:=Lib.hid (D'.out.below b1 hm)
    have hz1:w.heap.size+2≤w1.heap.size:=by simpa using hb.size
    clear hb r0 r1 b0
    have k0:w1.cell? ⟨w.heap.size,0,none⟩=some (.bool nb):=s0.cell 0
    have k1:w1.cell? ⟨w.heap.size,1,none⟩=some (.slice A L c):=s0.cell 1
    have k2:w1.cell? ⟨w.heap.size,2,none⟩=some (.int .i64 (d:Int)):=s0.cell 2
    have kf:=s0.free
    go_wp2_with fail
    go_at_call 107
    obtain ⟨W,hW⟩:∃ W,W=((w1.setCell ⟨w.heap.size,0,none⟩ (.bool nb)).setCell ⟨w.heap.size,1,none⟩ (.slice A L c)).setCell ⟨w.heap.size,2,none⟩ (.int .i64 (d:Int)):=⟨_,rfl⟩
    have hWs:w.heap.size+2≤W.heap.size:=by rw [hW];simpa using hz1
    have b2:Below w.heap.size w W:=by rw [hW];exact ((b1.setCell (by simp) _).setCell (by simp) _).setCell (by simp) _
    have t0:Bh W w.heap.size [.bool nb,.slice A L c,.int .i64 (d:Int)] 43:=by
      rw [hW]
      exact ((s0.set_ 0 _).set_ 1 _).set_ 2 _
    have t1:Bh W (w.heap.size+1) [.bool false,.slice none 0 0,.int .i64 0] 43:=by
      rw [hW]
      exact ((s1.other_ (by omega) _ _).other_ (by omega) _ _).other_ (by omega) _ _
    have X:WdR W m (.slice A L c) x.natAbs:=(D'.out.below b2 hm).words
    rw [←hW]
    clear hW s0 s1 b1 k0 k1 k2 kf hz1 D1
    have k0:W.cell? ⟨w.heap.size,0,none⟩=some (.bool nb):=t0.cell 0
    have k1:W.cell? ⟨w.heap.size,1,none⟩=some (.slice A L c):=t0.cell 1
    have k2:W.cell? ⟨w.heap.size,2,none⟩=some (.int .i64 (d:Int)):=t0.cell 2
    refine (Ek X (by omega) (by omega) hp6).mono ?_
    rintro e w3 ⟨v',rfl,D3,hb3⟩
    rw [HD.out.1,NW,←HV.out] at D3
    have b3:=b2.trans (hb3.mono (by omega))
    have u1:=t1.call hb3
    have hu1:=u1.lt
    obtain ⟨nb3,A3,L3,c3,rfl,_⟩:=D3.form
    have D3':=Lib.hid D3
    have q0:w3.cell? ⟨w.heap.size+1,0,none⟩=some (.bool false):=u1.cell 0
    have q1:w3.cell? ⟨w.heap.size+1,1,none⟩=some (.slice none 0 0):=u1.cell 1
    have q2:w3.cell? ⟨w.heap.size+1,2,none⟩=some (.int .i64 0):=u1.cell 2
    have qf:=u1.free
    clear D3 hb3 t0 t1 b2 X
    go_wp2_with fail
    refine bodyPost_ret (Qi rfl (((u1.set_ 0 _).set_ 1 _).set_ 2 _)) rfl ⟨_,rfl,?_,((b3.setCell (by simp) _).setCell (by simp) _).setCell (by simp) _⟩
    exact ((((D3'.out.set_ (by omega) 0 _).set_ (by omega) 1 _).set_ (by omega) 2 _).low (by omega)).more (by simp)
  · as_aux_lemma =>
    obtain ⟨p,hp⟩:∃ p:Nat,nn=(p:Int):=⟨nn.toNat,by omega⟩
    subst hp
    have HV := Lib.hid (show Ai x d n = nf (x * 2 ^ p) d by unfold Ai; rw [hnn, if_neg hneg]; rfl)
    have hneg':¬ (p:Int)<0:=by omega
    have hn2:decide ((p:Int)<0)=false:=decide_eq_false hneg'
    have hp6:p≤1000000:=by omega
    clear hneg
    obtain ⟨nb,A,L,c,rfl,HD⟩:=D.form
    have D':=Lib.hid D
    clear D
    have b0:Below w.heap.size w ((w.alloc (.cells #[.bool nb,.slice A L c,.int .i64 (d:Int)] 43)).alloc (.cells #[.bool false,.slice none 0 0,.int .i64 0] 43)):=Aq (Aq (Below.refl _ _) _) _
    have r0:=(Bh.new_ w [.bool nb,.slice A L c,.int .i64 (d:Int)] 43).call ((Below.refl _ _).alloc (Nat.le_refl _) (.cells #[.bool false,.slice none 0 0,.int .i64 0] 43))
    have r1:=(Bh.new_ (w.alloc (.cells #[.bool nb,.slice A L c,.int .i64 (d:Int)] 43)) [.bool false,.slice none 0 0,.int .i64 0] 43)
    rw [show (w.alloc (.cells #[.bool nb,.slice A L c,.int .i64 (d:Int)] 43)).heap.size=w.heap.size+1 by simp] at r1
    go_enter Tryz.func38,Tryz.ntmps38
    go_wp2_with fail
    go_at_call 105
    refine (IP (D'.out.below b0 hm) (by simp;omega) (by omega)).mono ?_
    rintro e w1 ⟨rfl,hb⟩
    have s0:=r0.below hb (by simp;omega)
    have s1:=r1.below hb (by simp)
    have b1:=b0.trans (hb.mono (by simp;omega))
    have D1:=Lib.hid (D'.out.below b1 hm)
    have hz1:w.heap.size+2≤w1.heap.size:=by simpa using hb.size
    clear hb r0 r1 b0
    have k0:w1.cell? ⟨w.heap.size,0,none⟩=some (.bool nb):=s0.cell 0
    have k1:w1.cell? ⟨w.heap.size,1,none⟩=some (.slice A L c):=s0.cell 1
    have k2:w1.cell? ⟨w.heap.size,2,none⟩=some (.int .i64 (d:Int)):=s0.cell 2
    have kf:=s0.free
    have hd6:=HD.out.2.2.2.2.2.1
    have hval:nf (sg nb (x.natAbs*2 ^ p)) d=Ai x d n:=by rw [HD.out.1,Sf,HV.out]
    have HVAL:=Lib.hid hval
    have hlen:(Ad (x.natAbs*2 ^ p)).length≤100000:=by
      have:=Bz x.natAbs p
      omega
    clear hval
    go_wp2_with fail
    obtain ⟨W,hW⟩:∃ W,W=((w1.setCell ⟨w.heap.size,0,none⟩ (.bool nb)).setCell ⟨w.heap.size,1,none⟩ (.slice A L c)).setCell ⟨w.heap.size,2,none⟩ (.int .i64 (d:Int)):=⟨_,rfl⟩
    have hWs:w.heap.size+2≤W.heap.size:=by rw [hW];simpa using hz1
    have b2:Below w.heap.size w W:=by rw [hW];exact ((b1.setCell (by simp) _).setCell (by simp) _).setCell (by simp) _
    have t0:Bh W w.heap.size [.bool nb,.slice A L c,.int .i64 (d:Int)] 43:=by
      rw [hW]
      exact ((s0.set_ 0 _).set_ 1 _).set_ 2 _
    have t1:Bh W (w.heap.size+1) [.bool false,.slice none 0 0,.int .i64 0] 43:=by
      rw [hW]
      exact ((s1.other_ (by omega) _ _).other_ (by omega) _ _).other_ (by omega) _ _
    have X:WdR W m (.slice A L c) x.natAbs:=(D'.out.below b2 hm).words
    rw [←hW]
    clear hW s0 s1 b1 k0 k1 k2 kf hz1 D1
    have k0:W.cell? ⟨w.heap.size,0,none⟩=some (.bool nb):=t0.cell 0
    have k1:W.cell? ⟨w.heap.size,1,none⟩=some (.slice A L c):=t0.cell 1
    have k2:W.cell? ⟨w.heap.size,2,none⟩=some (.int .i64 (d:Int)):=t0.cell 2
    have hle:m≤w.heap.size+1:=by omega
    have hk:SK W (w.heap.size+1) (w.heap.size+1) W:=SK.refl (by omega) ⟨_,_,_,t1⟩
    go_region_held3 (fun w'=>(∀ b o,b<w.heap.size+1→w'.cell? ⟨b,o,none⟩=W.cell? ⟨b,o,none⟩)∧SK W (w.heap.size+1) (w.heap.size+1) w')
      (first
      | (refine SK.all ?_
         first
           | assumption
           | exact hk
           | exact hk.drew
           | exact ((SK.set (by assumption) (by omega) _ _).set (by omega) _ _).set (by omega) _ _))
      (first
        | (go_at_call 106;refine (Wz (X.below (Below.refl m W).drew (Nat.le_refl _)) (by simp;omega) (by omega) hp6).mono ?_;(rintro e w5 ⟨v5,rfl,D5,hb5⟩;have hk5:=SK.call hk.drew hb5;have hf5:=hk5.lt;obtain ⟨A5,L5,c5,rfl⟩:=D5.form))
        | (go_at_call 107;refine (Ek D5 (Nat.le_refl _) hlen hd6).mono ?_;(rintro e w6 ⟨v6,rfl,D6,hb6⟩;have hk6:=SK.call hk5 hb6;have hf6:=hk6.lt;rw [HVAL.out] at D6;obtain ⟨nb6,A9,L9,c9,rfl,_⟩:=D6.form;obtain ⟨z0,z1,z2,rz,k0,k1,k2,kf⟩:=SK.cells hk6)))
    go_wp2_with fail
    refine bodyPost_ret (Qi rfl (((rz.set_ 0 _).set_ 1 _).set_ 2 _)) rfl ⟨_,rfl,?_,(((b2.trans (hk6.is.mono (by omega))).setCell (by simp) _).setCell (by simp) _).setCell (by simp) _⟩
    exact ((((D6.set_ (by omega) 0 _).set_ (by omega) 1 _).set_ (by omega) 2 _).low (by omega)).more (by simp)
theorem Ht {tmps:Array Value} {w:World} {b:Nat} {v0 v1 v2 v5:Value} (h2:tmps.getD 4 undef=.pointer (some ⟨b,0,none⟩)) (h5:tmps.getD 5 undef=v5) (hB:Bh w b [v0,v1,v2] 43) :
  (results Tryz.f173 tmps).run Tryz.prog w=.ok (.tuple #[.agg #[v0,v1,v2],v5]) w:=by
 have k0:=hB.cell 0
 have k1:=hB.cell 1
 have k2:=hB.cell 2
 simp at k0 k1 k2
 simp at h2 h5
 simp [results,Tryz.results173,go_sem,h2,h5,k0,k1,k2]
theorem AbU {v:Value} {n k m:Nat} {w:World} (h:WdR w m v n) (hm:m≤w.heap.size) (hl:(Ad n).length≤100000) (hk:k≤1000000) :
  Calls Tryz.prog 207 #[v,.int .i64 (k:Int)] w fun e w'=>∃ v',e=.returned (.tuple #[v',.bool (Lh n k)])∧WdR w' w'.heap.size v' (n / 2 ^ k)∧Below w.heap.size w w':=by
 obtain ⟨A,c,rfl,h1,h2,h3⟩:=h
 refine (FS A (Ad n) c k m w hm h3 (AV n) hl hk).mono ?_
 rintro e w' ⟨G,g,rfl,g1,g2,g3,hb⟩
 rw [AE] at g2 g3 ⊢
 exact ⟨_,rfl,⟨G,g,rfl,g1,g2,g3⟩,hb⟩
theorem WE {v:Value} {x:Int} {d lo m den:Nat} {w:World} (D:DyR w lo m v x d) (hm:m≤w.heap.size) (hl:(Ad x.natAbs).length≤50000) (hden:den≤65536) :
  Calls Tryz.prog 173 #[v,.int .i64 (den:Int)] w fun e w'=>∃ v',e=.returned (.tuple #[v',.int .i64 0])∧DyR w' w.heap.size w'.heap.size v' (BO x d den).1 (BO x d den).2∧Below w.heap.size w w':=by
 have n1:decide ((den:Int)<0)=false:=decide_eq_false (by omega)
 have n2:decide ((65536:Int)<(den:Int))=false:=decide_eq_false (by omega)
 have n3:¬ (den:Int)<0:=by omega
 have n4:¬ (65536:Int)<(den:Int):=by omega
 have hdr:=D.bound
 by_cases hle:d≤den
 ·as_aux_lemma =>
  have HV:=Lib.hid (show BO x d den=(x,d) from if_pos hle)
  have n5:(d:Int)≤(den:Int):=by omega
  obtain ⟨nb,A,L,c,rfl,HD⟩:=D.form
  have D':=Lib.hid D
  clear D
  have b0:Below w.heap.size w ((w.alloc (.cells #[.bool nb,.slice A L c,.int .i64 (d:Int)] 43)).alloc (.cells #[.bool false,.slice none 0 0,.int .i64 0] 43)):=Aq (Aq (Below.refl _ _) _) _
  have r0:=(Bh.new_ w [.bool nb,.slice A L c,.int .i64 (d:Int)] 43).call ((Below.refl _ _).alloc (Nat.le_refl _) (.cells #[.bool false,.slice none 0 0,.int .i64 0] 43))
  have r1:=(Bh.new_ (w.alloc (.cells #[.bool nb,.slice A L c,.int .i64 (d:Int)] 43)) [.bool false,.slice none 0 0,.int .i64 0] 43)
  rw [show (w.alloc (.cells #[.bool nb,.slice A L c,.int .i64 (d:Int)] 43)).heap.size=w.heap.size+1 by simp] at r1
  go_enter Tryz.func173,Tryz.ntmps173
  go_wp2_with fail
  go_at_call 105
  refine (IP (D'.out.below b0 hm) (by simp;omega) (by omega)).mono ?_
  rintro e w1 ⟨rfl,hb⟩
  have s0:=r0.below hb (by simp;omega)
  have s1:=r1.below hb (by simp)
  have b1:=b0.trans (hb.mono (by simp;omega))
  have D1:=Lib.hid (D'.out.below b1 hm)
  have hz1:w.heap.size+2≤w1.heap.size:=by simpa using hb.size
  clear hb r0 r1 b0
  have k0:w1.cell? ⟨w.heap.size,0,none⟩=some (.bool nb):=s0.cell 0
  have k1:w1.cell? ⟨w.heap.size,1,none⟩=some (.slice A L c):=s0.cell 1
  have k2:w1.cell? ⟨w.heap.size,2,none⟩=some (.int .i64 (d:Int)):=s0.cell 2
  have kf:=s0.free
  go_wp2_with fail
  go_at_call 107
  obtain ⟨W,hW⟩:∃ W,W=((w1.setCell ⟨w.heap.size,0,none⟩ (.bool nb)).setCell ⟨w.heap.size,1,none⟩ (.slice A L c)).setCell ⟨w.heap.size,2,none⟩ (.int .i64 (d:Int)):=⟨_,rfl⟩
  have hWs:w.heap.size+2≤W.heap.size:=by rw [hW];simpa using hz1
  have b2:Below w.heap.size w W:=by rw [hW];exact ((b1.setCell (by simp) _).setCell (by simp) _).setCell (by simp) _
  have t0:Bh W w.heap.size [.bool nb,.slice A L c,.int .i64 (d:Int)] 43:=by
   rw [hW]
   exact ((s0.set_ 0 _).set_ 1 _).set_ 2 _
  have t1:Bh W (w.heap.size+1) [.bool false,.slice none 0 0,.int .i64 0] 43:=by
   rw [hW]
   exact ((s1.other_ (by omega) _ _).other_ (by omega) _ _).other_ (by omega) _ _
  have X:WdR W m (.slice A L c) x.natAbs:=(D'.out.below b2 hm).words
  rw [←hW]
  clear hW s0 s1 b1 k0 k1 k2 kf hz1 D1
  have k0:W.cell? ⟨w.heap.size,0,none⟩=some (.bool nb):=t0.cell 0
  have k1:W.cell? ⟨w.heap.size,1,none⟩=some (.slice A L c):=t0.cell 1
  have k2:W.cell? ⟨w.heap.size,2,none⟩=some (.int .i64 (d:Int)):=t0.cell 2
  refine (Ek X (by omega) (by omega) hdr.1).mono ?_
  rintro e w3 ⟨v',rfl,D3,hb3⟩
  rw [HD.out.1,NW,Ep hdr.2,←HV.out] at D3
  have b3:=b2.trans (hb3.mono (by omega))
  have u1:=t1.call hb3
  have hu1:=u1.lt
  obtain ⟨nb3,A3,L3,c3,rfl,_⟩:=D3.form
  have D3':=Lib.hid D3
  have q0:w3.cell? ⟨w.heap.size+1,0,none⟩=some (.bool false):=u1.cell 0
  have q1:w3.cell? ⟨w.heap.size+1,1,none⟩=some (.slice none 0 0):=u1.cell 1
  have q2:w3.cell? ⟨w.heap.size+1,2,none⟩=some (.int .i64 0):=u1.cell 2
  have qf:=u1.free
  clear D3 hb3
  go_wp2_with fail
  refine bodyPost_ret (Ht rfl  rfl (((u1.set_ 0 _).set_ 1 _).set_ 2 _)) rfl ⟨_,rfl,?_,((b3.setCell (by simp) _).setCell (by simp) _).setCell (by simp) _⟩
  exact ((((D3'.out.set_ (by omega) 0 _).set_ (by omega) 1 _).set_ (by omega) 2 _).low (by omega)).more (by simp)
 ·as_aux_lemma =>
  have n5:¬ (d:Int)≤(den:Int):=by omega
  obtain ⟨k,hk⟩:∃ k:Nat,k=d - den:=⟨_,rfl⟩
  have HV:=Lib.hid (show BO x d den=nf (x / 2 ^ k) den by rw [hk];exact if_neg hle)
  have n6:(d:Int) - (den:Int)=(k:Int):=by omega
  have hk6:k≤1000000:=by omega
  have hln:(Ad (x.natAbs / 2 ^ k)).length≤50000:=Nat.le_trans (AX (Nat.div_le_self _ _)) hl
  clear hk
  obtain ⟨nb,A,L,c,rfl,HD⟩:=D.form
  have D':=Lib.hid D
  clear D
  have b0:Below w.heap.size w ((w.alloc (.cells #[.bool nb,.slice A L c,.int .i64 (d:Int)] 43)).alloc (.cells #[.bool false,.slice none 0 0,.int .i64 0] 43)):=Aq (Aq (Below.refl _ _) _) _
  have r0:=(Bh.new_ w [.bool nb,.slice A L c,.int .i64 (d:Int)] 43).call ((Below.refl _ _).alloc (Nat.le_refl _) (.cells #[.bool false,.slice none 0 0,.int .i64 0] 43))
  have r1:=(Bh.new_ (w.alloc (.cells #[.bool nb,.slice A L c,.int .i64 (d:Int)] 43)) [.bool false,.slice none 0 0,.int .i64 0] 43)
  rw [show (w.alloc (.cells #[.bool nb,.slice A L c,.int .i64 (d:Int)] 43)).heap.size=w.heap.size+1 by simp] at r1
  go_enter Tryz.func173,Tryz.ntmps173
  go_wp2_with fail
  go_at_call 105
  refine (IP (D'.out.below b0 hm) (by simp;omega) (by omega)).mono ?_
  rintro e w1 ⟨rfl,hb⟩
  have s0:=r0.below hb (by simp;omega)
  have s1:=r1.below hb (by simp)
  have b1:=b0.trans (hb.mono (by simp;omega))
  have D1:=Lib.hid (D'.out.below b1 hm)
  have hz1:w.heap.size+2≤w1.heap.size:=by simpa using hb.size
  clear hb r0 r1 b0
  have k0:w1.cell? ⟨w.heap.size,0,none⟩=some (.bool nb):=s0.cell 0
  have k1:w1.cell? ⟨w.heap.size,1,none⟩=some (.slice A L c):=s0.cell 1
  have k2:w1.cell? ⟨w.heap.size,2,none⟩=some (.int .i64 (d:Int)):=s0.cell 2
  have kf:=s0.free
  go_wp2_with fail
  go_at_call 207
  obtain ⟨W,hW⟩:∃ W,W=((w1.setCell ⟨w.heap.size,0,none⟩ (.bool nb)).setCell ⟨w.heap.size,1,none⟩ (.slice A L c)).setCell ⟨w.heap.size,2,none⟩ (.int .i64 (d:Int)):=⟨_,rfl⟩
  have hWs:w.heap.size+2≤W.heap.size:=by rw [hW];simpa using hz1
  have b2:Below w.heap.size w W:=by rw [hW];exact ((b1.setCell (by simp) _).setCell (by simp) _).setCell (by simp) _
  have t0:Bh W w.heap.size [.bool nb,.slice A L c,.int .i64 (d:Int)] 43:=by
   rw [hW]
   exact ((s0.set_ 0 _).set_ 1 _).set_ 2 _
  have t1:Bh W (w.heap.size+1) [.bool false,.slice none 0 0,.int .i64 0] 43:=by
   rw [hW]
   exact ((s1.other_ (by omega) _ _).other_ (by omega) _ _).other_ (by omega) _ _
  have X:WdR W m (.slice A L c) x.natAbs:=(D'.out.below b2 hm).words
  rw [←hW]
  clear hW s0 s1 b1 k0 k1 k2 kf hz1 D1
  have k0:W.cell? ⟨w.heap.size,0,none⟩=some (.bool nb):=t0.cell 0
  have k1:W.cell? ⟨w.heap.size,1,none⟩=some (.slice A L c):=t0.cell 1
  have k2:W.cell? ⟨w.heap.size,2,none⟩=some (.int .i64 (d:Int)):=t0.cell 2
  refine (AbU X (by omega) (by omega) hk6).mono ?_
  rintro e w4 ⟨v4,rfl,Y,hb4⟩
  obtain ⟨A4,L4,c4,rfl⟩:=Y.form
  have t1':=t1.call hb4
  have t0':=t0.call hb4
  have hz4:w.heap.size+2≤w4.heap.size:=by have:=hb4.size;omega
  have b4:=b2.trans (hb4.mono (by omega))
  clear t0 t1 b2 k0 k1 k2 hb4
  have k0:w4.cell? ⟨w.heap.size,0,none⟩=some (.bool nb):=t0'.cell 0
  obtain ⟨cb,hcb⟩:∃ cb,cb=Lh x.natAbs k:=⟨_,rfl⟩
  rw [←hcb]
  have HC:=Lib.hid hcb
  clear hcb
  have hnb:=HD.out.1
  cases nb with
  | false =>
   as_aux_lemma =>
   have hx:0≤x:=by simpa using hnb.symm
   have HX:=Lib.hid hx
   clear hnb hx
   have t1:=t1'
   have b2:=b4
   have hWs:=hz4
   clear t1' t0' b4 hz4
   go_wp2_with fail
   go_at_call 107
   refine (Ek Y (by omega) (by omega) hden).mono ?_
   rintro e w3 ⟨v',rfl,D3,hb3⟩
   rw [ZS HX.out,←HV.out] at D3
   have b3:=b2.trans (hb3.mono (by omega))
   have u1:=t1.call hb3
   have hu1:=u1.lt
   obtain ⟨nb3,A3,L3,c3,rfl,_⟩:=D3.form
   have D3':=Lib.hid D3
   have q0:w3.cell? ⟨w.heap.size+1,0,none⟩=some (.bool false):=u1.cell 0
   have q1:w3.cell? ⟨w.heap.size+1,1,none⟩=some (.slice none 0 0):=u1.cell 1
   have q2:w3.cell? ⟨w.heap.size+1,2,none⟩=some (.int .i64 0):=u1.cell 2
   have qf:=u1.free
   clear D3 hb3
   go_wp2_with fail
   refine bodyPost_ret (Ht rfl  rfl (((u1.set_ 0 _).set_ 1 _).set_ 2 _)) rfl ⟨_,rfl,?_,((b3.setCell (by simp) _).setCell (by simp) _).setCell (by simp) _⟩
   exact ((((D3'.out.set_ (by omega) 0 _).set_ (by omega) 1 _).set_ (by omega) 2 _).low (by omega)).more (by simp)
  | true =>
   have hx:x<0:=by simpa using hnb.symm
   have HX:=Lib.hid hx
   clear hnb hx
   cases cb with
   | false =>
    as_aux_lemma =>
    have t1:=t1'
    have b2:=b4
    have hWs:=hz4
    clear t1' t0' b4 hz4
    go_wp2_with fail
    go_at_call 107
    refine (Ek Y (by omega) (by omega) hden).mono ?_
    rintro e w3 ⟨v',rfl,D3,hb3⟩
    rw [Adw HX.out HC.out.symm,←HV.out] at D3
    have b3:=b2.trans (hb3.mono (by omega))
    have u1:=t1.call hb3
    have hu1:=u1.lt
    obtain ⟨nb3,A3,L3,c3,rfl,_⟩:=D3.form
    have D3':=Lib.hid D3
    have q0:w3.cell? ⟨w.heap.size+1,0,none⟩=some (.bool false):=u1.cell 0
    have q1:w3.cell? ⟨w.heap.size+1,1,none⟩=some (.slice none 0 0):=u1.cell 1
    have q2:w3.cell? ⟨w.heap.size+1,2,none⟩=some (.int .i64 0):=u1.cell 2
    have qf:=u1.free
    clear D3 hb3
    go_wp2_with fail
    refine bodyPost_ret (Ht rfl  rfl (((u1.set_ 0 _).set_ 1 _).set_ 2 _)) rfl ⟨_,rfl,?_,((b3.setCell (by simp) _).setCell (by simp) _).setCell (by simp) _⟩
    exact ((((D3'.out.set_ (by omega) 0 _).set_ (by omega) 1 _).set_ (by omega) 2 _).low (by omega)).more (by simp)
   | true =>
    as_aux_lemma =>
    have hln2:(Ad (x.natAbs / 2 ^ k+1)).length≤100000:=by
     have:=DA (x.natAbs / 2 ^ k) 1
     have e1:(Ad 1).length=1:=by rw [CQ (by decide),show 1 / 4294967296=0 by decide,AP];rfl
     omega
    go_wp2_with fail
    go_at_call 108
    have c1:WdR (w4.alloc (.cells #[.int .u32 1] 126)) (w4.heap.size+1) (.slice (some ⟨w4.heap.size,0,none⟩) 1 1) 1:=by
     have e1:Ad 1=[1]:=by rw [CQ (by decide),show 1 / 4294967296=0 by decide,AP]
     refine ⟨some ⟨w4.heap.size,0,none⟩,1,by rw [e1];rfl,by simp,by rw [e1];exact Nat.le_refl _,?_⟩
     rw [e1]
     exact (Bh.new_ w4 (w32 [1]) 126).cells_ (by omega)
    refine (Aaj (Y.below ((Below.refl _ w4).alloc (Nat.le_refl _) _) (Nat.le_refl _)) c1 (by simp) (by simp) (by omega) (by rw [CQ (by decide),show 1 / 4294967296=0 by decide,AP];simp)).mono ?_
    rintro e w5 ⟨v5,rfl,Z,hb5⟩
    obtain ⟨A5,L5,c5,rfl⟩:=Z.form
    have ba:=(Below.refl w4.heap.size w4).alloc (Nat.le_refl _) (.cells #[.int .u32 1] 126)
    have bb:=ba.trans (hb5.mono (by simp))
    have t1:=t1'.call bb
    have t0:=t0'.call bb
    have b2:=b4.trans (bb.mono (by omega))
    have hWs:w.heap.size+2≤w5.heap.size:=by have:=bb.size;omega
    have m0:w5.cell? ⟨w.heap.size,0,none⟩=some (.bool true):=t0.cell 0
    clear t1' t0' b4 hz4 ba bb hb5 k0
    go_wp2_with fail
    go_at_call 107
    refine (Ek Z (by omega) hln2 hden).mono ?_
    rintro e w3 ⟨v',rfl,D3,hb3⟩
    rw [Nc HX.out HC.out.symm,←HV.out] at D3
    have b3:=b2.trans (hb3.mono (by omega))
    have u1:=t1.call hb3
    have hu1:=u1.lt
    obtain ⟨nb3,A3,L3,c3,rfl,_⟩:=D3.form
    have D3':=Lib.hid D3
    have q0:w3.cell? ⟨w.heap.size+1,0,none⟩=some (.bool false):=u1.cell 0
    have q1:w3.cell? ⟨w.heap.size+1,1,none⟩=some (.slice none 0 0):=u1.cell 1
    have q2:w3.cell? ⟨w.heap.size+1,2,none⟩=some (.int .i64 0):=u1.cell 2
    have qf:=u1.free
    clear D3 hb3
    go_wp2_with fail
    refine bodyPost_ret (Ht rfl  rfl (((u1.set_ 0 _).set_ 1 _).set_ 2 _)) rfl ⟨_,rfl,?_,((b3.setCell (by simp) _).setCell (by simp) _).setCell (by simp) _⟩
    exact ((((D3'.out.set_ (by omega) 0 _).set_ (by omega) 1 _).set_ (by omega) 2 _).low (by omega)).more (by simp)
def Aak (vs:List Value):Prop:=∀ u∈vs,∀ z,u≠.int .u32 z
theorem Bh.notwd {w:World} {g t m:Nat} {vs:List Value} {A:Option Addr} {ws:List Nat} (h:Bh w g vs t) (hn:Aak vs) (hc:Am w m A (w32 ws)) (j:Nat) (u:Value):Am (w.setCell ⟨g,j,none⟩ u) m A (w32 ws):=fun hx=>by
 obtain ⟨b,off,hA,hbm,hbs,hcc⟩:=hc hx
 have hne:b≠g:=fun he=>by
  have hp:0<ws.length:=by
   have:=LJ ws
   rcases Nat.eq_zero_or_pos ws.length with h0|h0
   ·exact absurd (List.eq_nil_of_length_eq_zero (this.trans h0)) hx
   ·exact h0
  have h1:=hcc 0 (.int .u32 (ws[0]:Int)) (by simp [w32,hp])
  rw [he,h.cell] at h1
  exact hn _ (List.mem_of_getElem? h1) _ rfl
 refine ⟨b,off,hA,hbm,by simpa using hbs,fun i v hv=>?_⟩
 rw [World.cell?_setCell_other _ _ _ _ (fun e=>hne (by cases e;rfl))]
 exact hcc i v hv
theorem DyR.setH {w:World} {lo hi d g t:Nat} {v:Value} {x:Int} {vs:List Value} (h:DyR w lo hi v x d) (hg:Bh w g vs t) (hn:Aak vs) (j:Nat) (u:Value):DyR (w.setCell ⟨g,j,none⟩ u) lo hi v x d:=by
 obtain ⟨A,c,e,h1,h2,h3,h4,h5,h6⟩:=h
 exact ⟨A,c,e,h1,h2,hg.notwd hn h3 j u,h4,h5,h6⟩
theorem Aak.set {vs:List Value} (h:Aak vs) (j:Nat) {u:Value} (hu:∀ z,u≠.int .u32 z):Aak (vs.set j u):=fun v hv z=>by
 rcases List.mem_or_eq_of_mem_set hv with h1|rfl
 ·exact h v h1 z
 ·exact hu z
theorem Aes {b1:Bool} {A1:Option Addr} {L1 c1:Nat} {d1:Int}:Aak [.bool b1,.slice A1 L1 c1,.int .i64 d1]:=by
 intro u hu z
 simp only [List.mem_cons,List.not_mem_nil,or_false] at hu
 rcases hu with rfl|rfl|rfl <;> simp
theorem DyR.set3H {w:World} {lo hi d g t:Nat} {v:Value} {x:Int} {v0 v1 v2 a0 a1 a2:Value} (h:DyR w lo hi v x d) (hg:Bh w g [v0,v1,v2] t) (hn:Aak [v0,v1,v2]) (ha:Aak [a0,a1,a2]) :
  DyR (((w.setCell ⟨g,0,none⟩ a0).setCell ⟨g,1,none⟩ a1).setCell ⟨g,2,none⟩ a2) lo hi v x d:=by
 have k0:=hn.set 0 (ha a0 (by simp))
 have k1:=k0.set 1 (ha a1 (by simp))
 exact ((h.setH hg hn 0 a0).setH (hg.set_ 0 a0) k0 1 a1).setH ((hg.set_ 0 a0).set_ 1 a1) k1 2 a2
theorem Aet (w:World) (g:Nat) (a0 a1 a2:Value):(((w.setCell ⟨g,0,none⟩ a0).setCell ⟨g,1,none⟩ a1).setCell ⟨g,2,none⟩ a2).heap.size=w.heap.size:=by simp
theorem Rq {W w:World} {m g:Nat} (h:Below m W w) (hg:m≤g) (a0 a1 a2:Value):Below m W (((w.setCell ⟨g,0,none⟩ a0).setCell ⟨g,1,none⟩ a1).setCell ⟨g,2,none⟩ a2) :=
 ((h.setCell hg a0).setCell hg a1).setCell hg a2
def shE (x k:Int):Int:=if k<0 then x / 2 ^ (-k).toNat else x*2 ^ k.toNat
theorem YY (x:Int) (p:Nat):(nf x p).1 / 2 ^ (nf x p).2=x / 2 ^ p:=by
 induction p generalizing x with
 | zero=>rfl
 | succ p ih =>
  unfold nf
  split
  ·rename_i h
   rw [ih]
   have e:x=2*(x / 2):=by omega
   rw [Int.pow_succ,Int.mul_comm (2 ^ p) 2,←Int.ediv_ediv_of_nonneg (by omega)]
  ·rfl
theorem Qj (x:Int) (d:Nat):BO x d 0=(x / 2 ^ d,0):=by
 unfold BO
 by_cases h:d≤0
 ·have:d=0:=by omega
  subst this
  simp
 ·rw [if_neg h]
  rfl
theorem Aeu {x k:Int} (h1 : -65536≤k) (h2:k≤65536):BO (Ai x 0 k).1 (Ai x 0 k).2 0=(shE x k,0):=by
 rw [Qj]
 congr 1
 unfold Ai shE
 rw [show max (-65536) (min k 65536)=k by omega]
 by_cases h:k<0
 ·rw [if_pos h,if_pos h,Nat.zero_add]
  exact YY _ _
 ·rw [if_neg h,if_neg h]
  show x*2 ^ k.toNat / 2 ^ 0=_
  simp
def It (n e f:Int):Prop := -2147483648<n∧n<2147483648 ∧ -62≤e∧e≤30∧0≤f∧f≤30
instance (n e f:Int):Decidable (It n e f):=by unfold It;infer_instance
def DK (n e f:Int):Int:=if It n e f then (if -2147483648≤shE n (e+f)∧shE n (e+f)<2147483648 then 0 else 13) else 3
def US (n e f:Int):Int:=if DK n e f=0 then shE n (e+f) else 0
theorem Aev {n e f:Int} (h:¬ It n e f):DK n e f=3∧US n e f=0:=by
 have h1:DK n e f=3:=if_neg h
 exact ⟨h1,by unfold US;rw [h1];rfl⟩
theorem Rr {n e f:Int} (h:It n e f) (h2:¬ (-2147483648≤shE n (e+f)∧shE n (e+f)<2147483648)):DK n e f=13∧US n e f=0:=by
 have h1:DK n e f=13:=by unfold DK;rw [if_pos h,if_neg h2]
 exact ⟨h1,by unfold US;rw [h1];rfl⟩
theorem AbV {n e f:Int} (h:It n e f) (h2 : -2147483648≤shE n (e+f)∧shE n (e+f)<2147483648):DK n e f=0∧US n e f=shE n (e+f):=by
 have h1:DK n e f=0:=by unfold DK;rw [if_pos h,if_pos h2]
 exact ⟨h1,by unfold US;rw [h1];rfl⟩
theorem NF {x:Int} {k:Nat} (hx:x.natAbs≤2147483648) (hk:k≤100):(x*2 ^ k).natAbs≤2147483648*2 ^ 100:=by
 rw [Int.natAbs_mul,Int.natAbs_pow]
 exact Nat.mul_le_mul hx (Nat.pow_le_pow_right (by decide) hk)
theorem Um {x:Int} (k:Nat):(x / 2 ^ k).natAbs≤x.natAbs:=by
 have hp:(0:Int)<2 ^ k:=Int.pow_pos (by decide)
 have h1:=Int.mul_ediv_add_emod x (2 ^ k)
 have h2:=Int.emod_nonneg x (Int.ne_of_gt hp)
 have h3:=Int.emod_lt_of_pos x hp
 have hle:(0:Int)≤x→0≤x / 2 ^ k:=fun h=>Int.ediv_nonneg h (Int.le_of_lt hp)
 by_cases h:0≤x
 ·have h4:=hle h
  have h5:=Int.ediv_le_self (2 ^ k) h
  omega
 ·have h4:x≤x / 2 ^ k:=by
   rw [Int.le_ediv_iff_mul_le hp]
   have h6:(1:Int)≤2 ^ k:=hp
   have h7:=Int.mul_nonneg (a := -x) (b:=2 ^ k - 1) (by omega) (by omega)
   rw [Int.neg_mul,Int.mul_sub,Int.mul_one] at h7
   omega
  have h5:x / 2 ^ k<0:=Int.ediv_neg_of_neg_of_pos (by omega) hp
  omega
theorem Aew {x k:Int} (hx:x.natAbs≤2147483648) (h1 : -100≤k) (h2:k≤100):(Ad (Ai x 0 k).1.natAbs).length≤5:=by
 refine Bb (Nat.lt_of_le_of_lt (m:=2147483648*2 ^ 100) ?_ (by decide))
 unfold Ai
 rw [show max (-65536) (min k 65536)=k by omega]
 by_cases h:k<0
 ·rw [if_pos h]
  exact Nat.le_trans (Er _ _) (Nat.le_trans hx (by decide))
 ·rw [if_neg h]
  exact Nat.le_trans (Er _ _) (NF hx (by omega))
theorem AbW {x k:Int} (hx:x.natAbs≤2147483648) (h2:k≤100):(Ad (shE x k).natAbs).length≤5:=by
 refine Bb (Nat.lt_of_le_of_lt (m:=2147483648*2 ^ 100) ?_ (by decide))
 unfold shE
 by_cases h:k<0
 ·rw [if_pos h]
  exact Nat.le_trans (Um _) (Nat.le_trans hx (by decide))
 ·rw [if_neg h]
  exact NF hx (by omega)
end Go.Proofs.YtmdfjbpggbhgnaaGreatDoor
namespace Go.Proofs.YtmdfjbpggbhgnaaGreatDoor
open Go.RowKit
theorem Rs {n e f:Int} (h:It n e f):¬ n ≤ -2147483648∧¬ 2147483648≤n∧¬ e < -62∧¬ 30<e∧¬ f<0∧¬ 30<f:=by
 unfold It at h
 omega
theorem WF {n e f:Int} (h:¬ It n e f):n ≤ -2147483648∨(¬ n ≤ -2147483648∧2147483648≤n)∨(¬ n ≤ -2147483648∧¬ 2147483648≤n∧e < -62)∨(¬ n ≤ -2147483648∧¬ 2147483648≤n∧¬ e < -62∧30<e) ∨
  (¬ n ≤ -2147483648∧¬ 2147483648≤n∧¬ e < -62∧¬ 30<e∧f<0)∨(¬ n ≤ -2147483648∧¬ 2147483648≤n∧¬ e < -62∧¬ 30<e∧¬ f<0∧30<f):=by
 unfold It at h
 omega
theorem AbX (n e f:Int) (w:World) (h:¬ It n e f) :
  Calls Tryz.prog 117 #[.agg #[.int .i64 n,.int .i64 e],.int .i64 f] w fun r w'=>r=.returned (.tuple #[.int .i64 (US n e f),GH (DK n e f)])∧Below w.heap.size w w':=by
 have HV:=Lib.hid (Aev h)
 have b0:=al_ w (.cells #[.int .i64 n,.int .i64 e] 61)
 have r0:=Bh.new_ w [.int .i64 n,.int .i64 e] 61
 have h':=WF h
 clear h
 rcases h' with g0|⟨g0,g1⟩|⟨g0,g1,g2⟩|⟨g0,g1,g2,g3⟩|⟨g0,g1,g2,g3,g4⟩|⟨g0,g1,g2,g3,g4,g5⟩
 ·have d0:decide (n ≤ -2147483648)=true:=decide_eq_true g0
  clear g0
  go_enter Tryz.func117,Tryz.ntmps117
  go_wp2_with fail
  exact bodyPost_ret (v:=.tuple #[.int .i64 0,.iface 109 (.int .i64 3)]) (by simp [results,Tryz.results117,go_sem]) rfl ⟨by rw [HV.out.1,HV.out.2];rfl,b0⟩
 ·have d0:decide (n ≤ -2147483648)=false:=decide_eq_false g0
  have d1:decide (2147483648≤n)=true:=decide_eq_true g1
  clear g0 g1
  go_enter Tryz.func117,Tryz.ntmps117
  go_wp2_with fail
  exact bodyPost_ret (v:=.tuple #[.int .i64 0,.iface 109 (.int .i64 3)]) (by simp [results,Tryz.results117,go_sem]) rfl ⟨by rw [HV.out.1,HV.out.2];rfl,b0⟩
 ·have d0:decide (n ≤ -2147483648)=false:=decide_eq_false g0
  have d1:decide (2147483648≤n)=false:=decide_eq_false g1
  have d2:decide (e < -62)=true:=decide_eq_true g2
  clear g0 g1 g2
  go_enter Tryz.func117,Tryz.ntmps117
  go_wp2_with fail
  exact bodyPost_ret (v:=.tuple #[.int .i64 0,.iface 109 (.int .i64 3)]) (by simp [results,Tryz.results117,go_sem]) rfl ⟨by rw [HV.out.1,HV.out.2];rfl,b0⟩
 ·have d0:decide (n ≤ -2147483648)=false:=decide_eq_false g0
  have d1:decide (2147483648≤n)=false:=decide_eq_false g1
  have d2:decide (e < -62)=false:=decide_eq_false g2
  have d3:decide (30<e)=true:=decide_eq_true g3
  clear g0 g1 g2 g3
  go_enter Tryz.func117,Tryz.ntmps117
  go_wp2_with fail
  exact bodyPost_ret (v:=.tuple #[.int .i64 0,.iface 109 (.int .i64 3)]) (by simp [results,Tryz.results117,go_sem]) rfl ⟨by rw [HV.out.1,HV.out.2];rfl,b0⟩
 ·have d0:decide (n ≤ -2147483648)=false:=decide_eq_false g0
  have d1:decide (2147483648≤n)=false:=decide_eq_false g1
  have d2:decide (e < -62)=false:=decide_eq_false g2
  have d3:decide (30<e)=false:=decide_eq_false g3
  have d4:decide (f<0)=true:=decide_eq_true g4
  clear g0 g1 g2 g3 g4
  go_enter Tryz.func117,Tryz.ntmps117
  go_wp2_with fail
  exact bodyPost_ret (v:=.tuple #[.int .i64 0,.iface 109 (.int .i64 3)]) (by simp [results,Tryz.results117,go_sem]) rfl ⟨by rw [HV.out.1,HV.out.2];rfl,b0⟩
 ·have d0:decide (n ≤ -2147483648)=false:=decide_eq_false g0
  have d1:decide (2147483648≤n)=false:=decide_eq_false g1
  have d2:decide (e < -62)=false:=decide_eq_false g2
  have d3:decide (30<e)=false:=decide_eq_false g3
  have d4:decide (f<0)=false:=decide_eq_false g4
  have d5:decide (30<f)=true:=decide_eq_true g5
  clear g0 g1 g2 g3 g4 g5
  go_enter Tryz.func117,Tryz.ntmps117
  go_wp2_with fail
  exact bodyPost_ret (v:=.tuple #[.int .i64 0,.iface 109 (.int .i64 3)]) (by simp [results,Tryz.results117,go_sem]) rfl ⟨by rw [HV.out.1,HV.out.2];rfl,b0⟩
theorem AbY (n e f:Int) (w:World) (h:It n e f) (ht:Ax w) :
  Calls Tryz.prog 117 #[.agg #[.int .i64 n,.int .i64 e],.int .i64 f] w fun r w'=>r=.returned (.tuple #[.int .i64 (US n e f),GH (DK n e f)])∧Below w.heap.size w w':=by
 have hp:=Rs h
 have hn:n.natAbs≤2147483648:=by have:=hp.1;have:=hp.2.1;omega
 have hk : -62≤e+f∧e+f≤60:=by obtain ⟨_,_,_,_,_,_⟩:=hp;omega
 have HOK:=Lib.hid h
 have HT:=Lib.hid ht
 obtain ⟨g0,g1,g2,g3,g4,g5⟩:=hp
 have d0:decide (n ≤ -2147483648)=false:=decide_eq_false g0
 have d1:decide (2147483648≤n)=false:=decide_eq_false g1
 have d2:decide (e < -62)=false:=decide_eq_false g2
 have d3:decide (30<e)=false:=decide_eq_false g3
 have d4:decide (f<0)=false:=decide_eq_false g4
 have d5:decide (30<f)=false:=decide_eq_false g5
 have hi1 : -9223372036854775808≤n:=by omega
 have hi2:n<9223372036854775808:=by omega
 have l5:(Ad n.natAbs).length≤50000:=Nat.le_trans (Bb (k:=1) (by omega)) (by decide)
 have l6:(Ad (Ai n 0 (e+f)).1.natAbs).length≤50000:=Nat.le_trans (Aew hn (by omega) (by omega)) (by decide)
 have l7:(Ad (shE n (e+f)).natAbs).length≤50000:=Nat.le_trans (AbW hn (by omega)) (by decide)
 have hsv:=Lib.hid (Aeu (x:=n) (k:=e+f) (by omega) (by omega))
 obtain ⟨k,hkk⟩:∃ k,k=e+f:=⟨_,rfl⟩
 have hw1:IntKind.i64.wrap (e+f)=k:=by rw [hkk];exact IntWalk.i64_in _ (by omega)
 rw [←hkk] at l6 l7 hsv hk
 have HKK:=Lib.hid hkk
 obtain ⟨x,hx⟩:∃ x,x=shE n k:=⟨_,rfl⟩
 rw [←hx] at l7 hsv
 have HX:=Lib.hid hx
 clear h ht g0 g1 g2 g3 g4 g5 hkk hx
 go_enter Tryz.func117,Tryz.ntmps117
 go_wp2_with fail
 obtain ⟨W,hW⟩:∃ q,q=w.alloc (.cells #[.int .i64 n,.int .i64 e] 61):=⟨_,rfl⟩
 have rX:Bh W w.heap.size [.int .i64 n,.int .i64 e] 61:=by rw [hW];exact Bh.new_ _ _ _
 have bW:Below w.heap.size w W:=by rw [hW];exact al_ _ _
 rw [←hW]
 clear hW
 have hA:=rX.lt
 have a0:W.cell? ⟨w.heap.size,0,none⟩=some (.int .i64 n):=rX.cell 0
 have a1:W.cell? ⟨w.heap.size,1,none⟩=some (.int .i64 e):=rX.cell 1
 have HTW:=Lib.hid (HT.out.below bW HT.out.1)
 have hWs:=bW.size
 refine PI 13 13 11 (by kernel_rfl) (by kernel_rfl) (by kernel_rfl) (by decide) ?_
 dsimp only [List.take,List.drop]
 obtain ⟨u0,hu0⟩:∃ q,q=W.drew:=⟨_,rfl⟩
 have hS:Below W.heap.size W u0:=by rw [hu0];exact (Below.refl _ _).drew
 rw [←hu0]
 clear hu0
 refine Oh 0 ?v0 rfl (by kernel_rfl) (by intro _ _ _ h;exact h) (by rfl) ?h0 ?r0
 case h0 =>
  intro w2 hx
  go_simp
  try rfl
 case' r0=>try simp only [Act.put,List.setIfInBounds_toArray,List.set_cons_zero,List.set_cons_succ]
 refine Oh 1 ?v1 rfl (by kernel_rfl) (by intro _ _ _ h;exact h) (by rfl) ?h1 ?r1
 case h1 =>
  intro w2 hx
  have e0:w2.cell? ⟨w.heap.size,0,none⟩=some (.int .i64 n):=((hS.trans (hx.more0.mono hS.size)).cell (p:=⟨w.heap.size,0,none⟩) hA).trans a0
  go_simp
  try rfl
 case' r1=>try simp only [Act.put,List.setIfInBounds_toArray,List.set_cons_zero,List.set_cons_succ]
 refine Oh 3 ?v3 rfl (by kernel_rfl) (by intro _ _ _ h;exact h) (by rfl) ?h3 ?r3
 case h3 =>
  intro w2 hx
  go_simp
  try rfl
 case' r3=>try simp only [Act.put,List.setIfInBounds_toArray,List.set_cons_zero,List.set_cons_succ]
 refine Oh 4 ?v4 rfl (by kernel_rfl) (by intro _ _ _ h;exact h) (by rfl) ?h4 ?r4
 case h4 =>
  intro w2 hx
  have e1:w2.cell? ⟨w.heap.size,1,none⟩=some (.int .i64 e):=((hS.trans (hx.more0.mono hS.size)).cell (p:=⟨w.heap.size,1,none⟩) hA).trans a1
  go_simp
  try rfl
 case' r4=>try simp only [Act.put,List.setIfInBounds_toArray,List.set_cons_zero,List.set_cons_succ]
 refine Oh 5 ?v5 rfl (by kernel_rfl) (by intro _ _ _ h;exact h) (by rfl) ?h5 ?r5
 case h5 =>
  intro w2 hx
  go_simp
  try rfl
 case' r5=>try simp only [Act.put,List.setIfInBounds_toArray,List.set_cons_zero,List.set_cons_succ]
 refine Oh 6 ?v6 rfl (by kernel_rfl) (by intro _ _ _ h;exact h) (by rfl) ?h6 ?r6
 case h6 =>
  intro w2 hx
  have hw2:=hw1
  go_simp
  try rfl
 case' r6=>try simp only [Act.put,List.setIfInBounds_toArray,List.set_cons_zero,List.set_cons_succ]
 refine AfI 12 (fun g=>.pointer (some ⟨g,0,none⟩)) (.cells #[.bool false,.slice none 0 0,.int .i64 0] 43) W.heap.size rfl (by kernel_rfl) (by intro _ _ _ _ h;exact h) (by rfl) (by intro w2;go_simp;try rfl) hS.size (by intro b h;exact h.elim) ?_
 refine Abi 2 rfl (by kernel_rfl) (by rfl) ?_
 intro x1 hx K hK
 have hS1:=hS.trans (hx.mono hS.size)
 clear hS
 go_simp
 refine (QW n hi1 hi2 x1 (HTW.out.below hS1 HTW.out.1)).mono ?_
 rintro e u1 ⟨v5,rfl,D5,hb⟩
 have hS:=hS1.trans (hb.mono hS1.size)
 obtain ⟨nb5,A5,L5,c5,rfl,_⟩:=D5.form
 refine hK.out _ _ (DG.growU hb) ?_
 clear hK K hx hS1 hb
 try simp only [Act.put,List.setIfInBounds_toArray,List.set_cons_zero,List.set_cons_succ]
 refine Abi 7 rfl (by kernel_rfl) (by rfl) ?_
 intro x2 hx K hK
 have hS1:=hS.trans (hx.mono hS.size)
 clear hS
 replace D5:=(D5.below hx (Nat.le_refl _)).more hx.size
 go_simp
 refine (HJ (n:=k) D5 (Nat.le_refl _) l5 (by omega) (HTW.out.below hS1 HTW.out.1)).mono ?_
 rintro e u2 ⟨v6,rfl,D6,hb⟩
 have hS:=hS1.trans (hb.mono hS1.size)
 replace D5:=(D5.below hb (Nat.le_refl _)).more hb.size
 obtain ⟨nb6,A6,L6,c6,rfl,_⟩:=D6.form
 clear D5
 refine hK.out _ _ (DG.growU hb) ?_
 clear hK K hx hS1 hb
 try simp only [Act.put,List.setIfInBounds_toArray,List.set_cons_zero,List.set_cons_succ]
 refine Abi 8 rfl (by kernel_rfl) (by rfl) ?_
 intro x3 hx K hK
 have hS1:=hS.trans (hx.mono hS.size)
 clear hS
 replace D6:=(D6.below hx (Nat.le_refl _)).more hx.size
 go_simp
 refine (Nh (den:=0) D6 (Nat.le_refl _) l6 (by omega) (HTW.out.below hS1 HTW.out.1)).mono ?_
 rintro e u3 ⟨v7,rfl,D7,hb⟩
 have hS:=hS1.trans (hb.mono hS1.size)
 replace D6:=(D6.below hb (Nat.le_refl _)).more hb.size
 rw [hsv.out] at D7
 obtain ⟨nb7,A7,L7,c7,rfl,_⟩:=D7.form
 clear D6
 refine hK.out _ _ (DG.growU hb) ?_
 clear hK K hx hS1 hb
 try simp only [Act.put,List.setIfInBounds_toArray,List.set_cons_zero,List.set_cons_succ]
 refine Oh 9 ?v9 rfl (by kernel_rfl) (by intro _ _ _ h;exact h) (by rfl) ?h9 ?r9
 case h9 =>
  intro w2 hx
  go_simp
  try rfl
 case' r9=>try simp only [Act.put,List.setIfInBounds_toArray,List.set_cons_zero,List.set_cons_succ]
 refine Oh 10 ?v10 rfl (by kernel_rfl) (by intro _ _ _ h;exact h) (by rfl) ?h10 ?r10
 case h10 =>
  intro w2 hx
  go_simp
  try rfl
 case' r10=>try simp only [Act.put,List.setIfInBounds_toArray,List.set_cons_zero,List.set_cons_succ]
 refine Oh 11 ?v11 rfl (by kernel_rfl) (by intro _ _ _ h;exact h) (by rfl) ?h11 ?r11
 case h11 =>
  intro w2 hx
  go_simp
  try rfl
 case' r11=>try simp only [Act.put,List.setIfInBounds_toArray,List.set_cons_zero,List.set_cons_succ]
 refine endE (by kernel_rfl) ?_
 intro u4 hx g hg hU hgo
 dsimp only [IY]
 have rg:Bh u4 g [.bool false,.slice none 0 0,.int .i64 0] 43:=hgo
 have hS4:=hS.trans (hx.mono hS.size)
 replace D7:=(D7.below hx (Nat.le_refl _)).more hx.size
 clear hx hS hU hgo
 have RG:=Lib.hid rg
 have HD7:=Lib.hid D7
 have HS4:=Lib.hid hS4
 have c0:u4.cell? ⟨g,0,none⟩=some (.bool false):=rg.cell 0
 have c1:u4.cell? ⟨g,1,none⟩=some (.slice none 0 0):=rg.cell 1
 have c2:u4.cell? ⟨g,2,none⟩=some (.int .i64 0):=rg.cell 2
 have cf:=rg.free
 have cg:=rg.lt
 clear rg D7 hS4 a0 a1
 go_wp2_with fail
 refine NoPanic.normal ?_
 go_wp2_with fail
 go_at_call 210
 obtain ⟨y,hy⟩:∃ q,q=(((u4.setCell ⟨g,0,none⟩ (.bool nb7)).setCell ⟨g,1,none⟩ (.slice A7 L7 c7)).setCell ⟨g,2,none⟩ (.int .i64 0)):=⟨_,rfl⟩
 have Dy:DyR y x3.heap.size y.heap.size (.agg #[.bool nb7,.slice A7 L7 c7,.int .i64 ((0:Nat):Int)]) x 0:=by rw [hy,Aet];exact HD7.out.set3H RG.out Aes Aes
 have hSy:Below W.heap.size W y:=by rw [hy];exact Rq HS4.out hg _ _ _
 try rw [←hy]
 clear hy
 refine (Yi (m:=y.heap.size) Dy rfl (Nat.le_refl _) l7).mono ?_
 rintro e8 u8 ⟨rfl,hb8⟩
 have HF:=Lib.hid (bW.trans ((hSy.trans (hb8.mono hSy.size)).mono hWs))
 clear hb8 hSy Dy HS4 RG HD7 cf cg c0 c1 c2 hg
 by_cases h32 : -2147483648≤x∧x<2147483648
 ·have HV:=Lib.hid (AbV HOK.out (by rw [←HKK.out,←HX.out];exact h32))
  have h64:=LQ (x:=x) (by omega)
  rw [h64.1,h64.2]
  have f1:decide (x < -2147483648)=false:=decide_eq_false (by omega)
  have f2:decide (2147483648≤x)=false:=decide_eq_false (by omega)
  clear h64
  clear h32
  go_wp2_with fail
  exact bodyPost_ret (v:=.tuple #[.int .i64 x,.nilIface]) (by simp [results,Tryz.results117,go_sem]) rfl ⟨by rw [HV.out.1,HV.out.2,←HKK.out,←HX.out];rfl,HF.out⟩
 ·by_cases h64 : -9223372036854775808≤x∧x<9223372036854775808
  ·by_cases h7:x < -2147483648
   ·have HV:=Lib.hid (Rr HOK.out (by rw [←HKK.out,←HX.out];exact h32))
    have h6:=LQ h64
    rw [h6.1,h6.2]
    have f1:decide (x < -2147483648)=true:=decide_eq_true h7
    clear h6 h64 h7
    clear h32
    go_wp2_with fail
    exact bodyPost_ret (v:=.tuple #[.int .i64 0,.iface 109 (.int .i64 13)]) (by simp [results,Tryz.results117,go_sem]) rfl ⟨by rw [HV.out.1,HV.out.2];rfl,HF.out⟩
   ·have HV:=Lib.hid (Rr HOK.out (by rw [←HKK.out,←HX.out];exact h32))
    have h6:=LQ h64
    rw [h6.1,h6.2]
    have f1:decide (x < -2147483648)=false:=decide_eq_false h7
    have f2:decide (2147483648≤x)=true:=decide_eq_true (by omega)
    clear h6 h64 h7
    clear h32
    go_wp2_with fail
    exact bodyPost_ret (v:=.tuple #[.int .i64 0,.iface 109 (.int .i64 13)]) (by simp [results,Tryz.results117,go_sem]) rfl ⟨by rw [HV.out.1,HV.out.2];rfl,HF.out⟩
  ·have HV:=Lib.hid (Rr HOK.out (by rw [←HKK.out,←HX.out];exact h32))
   have h6:=Si h64
   rw [h6.1,h6.2]
   clear h6 h64
   clear h32
   go_wp2_with fail
   exact bodyPost_ret (v:=.tuple #[.int .i64 0,.iface 109 (.int .i64 13)]) (by simp [results,Tryz.results117,go_sem]) rfl ⟨by rw [HV.out.1,HV.out.2];rfl,HF.out⟩
theorem YZ (n e f:Int) (w:World) (ht:Ax w) :
  Calls Tryz.prog 117 #[.agg #[.int .i64 n,.int .i64 e],.int .i64 f] w fun r w'=>r=.returned (.tuple #[.int .i64 (US n e f),GH (DK n e f)])∧Below w.heap.size w w':=by
 by_cases h:It n e f
 ·exact AbY n e f w h ht
 ·exact AbX n e f w h
end Go.Proofs.YtmdfjbpggbhgnaaGreatDoor
namespace Go.Proofs.YtmdfjbpggbhgnaaGreatDoor
open Go.RowKit
def fitV (n:Int):Int:=max (-2147483648) (min n 2147483647)
def fitB (n:Int):Bool:=decide (-2147483648≤n∧n<2147483648)
end Go.Proofs.YtmdfjbpggbhgnaaGreatDoor
namespace Go.Proofs.YtmdfjbpggbhgnaaGreatDoor
open Go.RowKit
end Go.Proofs.YtmdfjbpggbhgnaaGreatDoor
namespace Go.Proofs.YtmdfjbpggbhgnaaGreatDoor
open Go.RowKit
def wds (x:Int):List D:=(w32 (Ad x.natAbs)).map D.val
def dDy (t:Bool) (x:Int) (d:Nat):List D:=[.val (.bool (decide (x<0))),.row t 1 (Ad x.natAbs).length (wds x),.val (.int .i64 (d:Int))]
def aDy (t:Bool) (x:Int) (d:Nat):A:=.agg (dDy t x d)
def Nf (x:Int) (d:Nat):Prop:=d≤65536∧(d≠0→x % 2=1)
theorem GS {w:World} {S:Eu} {t:Bool} {x:Int} {d:Nat} {v:Value} (h:EN w S (aDy t x d) v) (hS:∀ t b,S t b→b<w.heap.size) (hn:Nf x d):DyR w 0 w.heap.size v x d:=by
 obtain ⟨xs,rfl,h1⟩:=h
 obtain ⟨a,l1,rfl,ha,h2⟩:=h1.uncons
 obtain ⟨b,l2,rfl,hb,h3⟩:=h2.uncons
 obtain ⟨c,l3,rfl,hc,h4⟩:=h3.uncons
 rw [h4.unnil]
 cases ha
 cases hc
 cases hb with
 | @row _ _ _ c cs A xs hc hA hl hx hm hr =>
  have hw:xs=w32 (Ad x.natAbs):=Lp (vs:=w32 (Ad x.natAbs)) ⟨hx,hr⟩
  subst hw
  refine ⟨A,c,rfl,hA,hc,fun hne=>?_,fun a _=>Nat.zero_le _,hn.1,hn.2⟩
  obtain ⟨b,off,rfl,hb,hcell⟩:=hm (fun h=>hne (List.map_eq_nil_iff.1 h))
  exact ⟨b,off,rfl,hS _ _ hb,hS _ _ hb,hcell⟩
theorem Rt {l:List Nat} {v:Value} (h:v∈w32 l):v.oneCell'=true:=by
 simp only [w32,List.mem_map] at h
 obtain ⟨n,_,rfl⟩:=h
 rfl
theorem GC {w w':World} {v:Value} {x:Int} {d:Nat} (h:DyR w' w.heap.size w'.heap.size v x d):EN w' (Yx w w') (aDy false x d) v:=by
 obtain ⟨A,c,rfl,h1,h2,h3,h4,h5,h6⟩:=h
 refine ⟨[.bool (decide (x<0)),.slice A (Ad x.natAbs).length c,.int .i64 (d:Int)],rfl,.cons_ (.val rfl) (.cons_ (.row (w32 (Ad x.natAbs)) h2 h1 ?_ ?_ ?_ ?_) (.cons_ (.val rfl) .nil_))⟩
 ·rw [wds,List.length_map,LJ,Nat.mul_one]
 ·rw [wds,List.length_map]
 ·intro hne
  obtain ⟨b,off,rfl,h7,h8,h9⟩:=h3 (fun h=>hne (by rw [wds,h];rfl))
  exact ⟨b,off,rfl,⟨rfl,h4 _ rfl,h8⟩,h9⟩
 ·intro j u y hu hy
  rw [wds,List.getElem?_map,hy] at hu
  cases hu
  exact .val (Rt (List.mem_of_getElem? hy))
theorem Nf.nf {m:Int} {p:Nat} (h:p≤65536):Nf (nf m p).1 (nf m p).2:=⟨Nat.le_trans (AaJ m p) h,Vh m p⟩
section
variable {G:World→Prop}
theorem Za (n:Int) (h1 : -9223372036854775808≤n) (h2:n<9223372036854775808):CVF Tryz.prog G 39 [aI n] [aDy false n 0]:=fun w S vs hg hlt ha=>by
 obtain ⟨u,hu,h3⟩:=BW ha
 subst hu
 cases h3
 exact (Aeq n h1 h2 w).mono fun r w' ⟨v,he,hd,hb⟩=>⟨v,he,GC hd,hb⟩
theorem Qk (t:Bool) (x:Int) (d:Nat) (n:Int) (hn:Nf x d) (hl:(Ad x.natAbs).length≤50000) (hd:(d:Int) - max (-65536) (min n 65536)≤65536):CVF Tryz.prog G 38 [aDy t x d,aI n] [aDy false (Ai x d n).1 (Ai x d n).2]:=fun w S vs hg hlt ha=>by
 obtain ⟨v,vs',rfl,h1,ha⟩:=ha.uncons
 obtain ⟨u,hu,h2⟩:=BW ha
 subst hu
 cases h2
 exact (Ul (GS h1 hlt hn) (Nat.le_refl _) hl hd).mono fun r w' ⟨v,he,hd,hb⟩=>⟨v,he,GC hd,hb⟩
theorem WG (t t':Bool) (x:Int) (dx:Nat) (y:Int) (dy:Nat) (hn:Nf x dx) (hm:Nf y dy) (l1:(Ad x.natAbs).length≤50000) (l2:(Ad y.natAbs).length≤50000):CVF Tryz.prog G 29 [aDy t x dx,aDy t' y dy] [aI (Cl x dx y dy)]:=fun w S vs hg hlt ha=>by
 obtain ⟨v,vs',rfl,h1,ha⟩:=ha.uncons
 obtain ⟨u,hu,h2⟩:=BW ha
 subst hu
 exact (Ro (GS h1 hlt hn) (GS h2 hlt hm) (Nat.le_refl _) l1 l2).mono fun r w' ⟨he,hb⟩=>⟨_,he,BE.val rfl,hb⟩
end
theorem WI {a b:Int} {p q:Nat} (h:a*2 ^ p=b*2 ^ q):sgI a=sgI b:=by rw [←Fi a p,h,Fi b q]
theorem WJ {a b A B:Int} {da db q:Nat} (ha:a*2 ^ q=A*2 ^ da) (hb:b*2 ^ q=B*2 ^ db):Cl a da b db=sgI (A - B):=by
 unfold Cl Cw
 rw [WI (Yf _ _)]
 refine WI (p:=q) (q:=max da db) ?_
 have e1:a*2 ^ (max da db - da)*2 ^ q=A*2 ^ max da db:=by
  rw [Int.mul_right_comm,ha,Int.mul_assoc,←Int.pow_add];congr 2;omega
 have e2:b*2 ^ (max da db - db)*2 ^ q=B*2 ^ max da db:=by
  rw [Int.mul_right_comm,hb,Int.mul_assoc,←Int.pow_add];congr 2;omega
 rw [Int.add_mul,Int.neg_mul,Int.neg_mul,e1,e2,Int.sub_mul]
 omega
def dW (n:Nat):D:=.val (.int .u32 (n:Int))
def rowW (t:Bool) (ws:List Nat):D:=.row t 1 ws.length (ws.map dW)
def cW (ws:List Nat):List C:=ws.map fun n=>.d (dW n)
theorem Un (ws:List Nat):(w32 ws).map D.val=ws.map dW:=by simp [w32,dW]
theorem AbZ (n:Nat):ES (madeCells (Value.int .u32 0).cells (n*1)).toList=cW (List.replicate n 0):=by
 rw [Nat.mul_one,show (Value.int .u32 0).cells=#[Value.int .u32 0] from rfl,toList_madeCells_one]
 simp [ES,cW,dW]
theorem GD {n:Nat} {l:List Nat}:∀ c∈cW l,C.bel n c:=fun c hc=>by obtain ⟨z,_,rfl⟩:=List.mem_map.1 hc;trivial
theorem Fl {ws:List Nat} {k x:Nat} (h:ws[k]?=some x):((ws.map dW).drop (k*1)).take 1=[dW x]:=Nt h
section
variable {P:Program} {G:World→Prop} {o:Oper} {F:Frm} {H:List Ob}
theorem Lv {t e:TypeId} {x y:Operand} {by_ n:Nat} {k k':IntKind} {z:Int} (ho:o.op=.makeSlice t x y) (hx:F.ev x=.one (.d (.val (.int k z)))) (hy:F.ev y=.one (.d (.val (.int k' z)))) (hz':z=(n:Int)) (ht:TyS P t e 1) (hz:TyZ P e (.int .u32 0) 1 by_) (hn:n≤1000000) (hby:by_≤1000) :
  Bs P G o F H (.one (.own H.length n)) [.row e 1 n (cW (List.replicate n 0))]:=by
 subst hz'
 have:=CR (P:=P) (G:=G) (H:=H) ho hx hy ht hz hn hby
 rwa [AbZ] at this
theorem Ql {t ty:TypeId} {x:Operand} {id s n i k:Nat} {xs:List Nat} {z:Nat} (ho:o.op=.load t x) (hx:F.ev x=.one (.ref id (i*1) (some n))) (hH:H[id]?=some (.row ty s n (cW xs))) (hz:xs[i]?=some z) (hk:TyK P t false k):Bs P G o F H (.one (.d (.val (.int .u32 (z:Int))))) [] :=
 Og ho hx (.row hH) (by simp [cW,hz,dW]) hk
theorem IQ {t ty:TypeId} {x y:Operand} {id s n i:Nat} {xs:List Nat} {z:Int} {u:Nat} {b:Bool} (ho:o.op=.store t x y) (hx:F.ev x=.one (.ref id (i*1) (some n))) (hH:H[id]?=some (.row ty s n (cW xs))) (hy:F.ev y=.one (.d (.val (.int .u32 z)))) (hz:z=(u:Int)) (hty:TyK P t b 1) (hi:i<xs.length) {ys:List Nat} (hys:xs.set i u=ys):TOk P G o F H .any (H.set id (.row ty s n (cW ys))):=by
 subst hz
 have:=PD (P:=P) (G:=G) ho hx hH rfl hy hty (by simp [Ob.cs,cW,hi])
 have e:(cW xs).set (i*1) (.d (.val (.int .u32 (u:Int))))=cW ys:=by rw [←hys,Nat.mul_one];simp [cW,List.map_set,dW]
 simp only [Ob.cs,Ob.setC,e] at this
 exact this
theorem Cp {s t:TypeId} {x:Operand} {k k':IntKind} {p r:Int} (ho:o.op=.convert s t x) (hs:P.underlying s=some (.int k)) (ht:P.underlying t=some (.int k')) (hx:F.ev x=.one (.d (.val (.int k p)))) (hr:k'.wrap p=r):Bs P G o F H (.one (.d (.val (.int k' r)))) []:=hr ▸ CJ ho hs ht hx
theorem Aca {t t':TypeId} {x y:Operand} {k:IntKind} {p q r:Int} (ho:o.op=.binOp .mul t x y t') (hx:F.ev x=.one (.d (.val (.int k p)))) (hy:F.ev y=.one (.d (.val (.int k q)))) (hr:k.wrap (p*q)=r):Bs P G o F H (.one (.d (.val (.int k r)))) []:=hr ▸ ZY ho hx hy
theorem GT {t t':TypeId} {x y:Operand} {k:IntKind} {p q r:Int} (ho:o.op=.binOp .add t x y t') (hx:F.ev x=.one (.d (.val (.int k p)))) (hy:F.ev y=.one (.d (.val (.int k q)))) (hr:k.wrap (p+q)=r):Bs P G o F H (.one (.d (.val (.int k r)))) []:=hr ▸ ZX ho hx hy
theorem Tk {t t':TypeId} {x:Operand} {k':IntKind} {p:Nat} {r:Int} (ho:o.op=.binOp .shr t x (.const (.int k' 32)) t') (hx:F.ev x=.one (.d (.val (.int .u64 (p:Int))))) (hr:((p / 4294967296:Nat):Int)=r):Bs P G o F H (.one (.d (.val (.int .u64 r)))) []:=by
 subst hr
 refine CZ (y:=.const (.int k' 32)) (u':=.int k' 32) ho hx rfl (fun w=>?_) rfl
 have e:(p:Int).fdiv 4294967296=((p / 4294967296:Nat):Int):=by rw [Int.fdiv_eq_ediv_of_nonneg _ (by decide)];rfl
 simp [eqGuard,binOp,Op.shift,IntKind.bits,e]
theorem Ru {t t':TypeId} {x y:Operand} {p q:Bool} (ho:o.op=.binOp .neq t x y t') (ht:P.underlying t=some .bool) (hx:F.ev x=.one (.d (.val (.bool p)))) (hy:F.ev y=.one (.d (.val (.bool q)))):Bs P G o F H (.one (.d (.val (.bool (p != q))))) []:=by
 refine CZ ho hx hy (fun w=>?_) rfl
 have h1:(Op.equal t (.bool p) (.bool q)).run P w=.ok (p == q) w:=by
  have key:∀ d:Nat,(Op.equalIn (d+1) t (.bool p) (.bool q)).run P w=.ok (p == q) w:=fun d=>by simp [Op.equalIn,run_underlying ht]
  exact key 9999
 simp [eqGuard,binOp,h1,bne]
end
theorem Hu {z:Int} (h0:0≤z) (h1:z<18446744073709551616):IntKind.wrap .u64 z=z:=by rw [IntKind.wrap_u64];omega
theorem Oy (n:Nat):IntKind.wrap .u32 (n:Int)=((n % 4294967296:Nat):Int):=by rw [IntKind.wrap_u32];omega
theorem Rx (G:World→Prop) (x:Int) (d:Nat) (hn:Nf x d) (hl:(Ad x.natAbs).length≤100000):CV Tryz.prog G 105 [aDy false x d] [aDy false x d]:=fun w S vs hg hlt ha=>by
 obtain ⟨u,hu,h3⟩:=BW ha
 subst hu
 refine (IP (GS h3 hlt hn) (Nat.le_refl _) hl).mono fun r w' ⟨he,hb⟩=>⟨_,he,?_,hb⟩
 obtain ⟨xs,hv,hl2⟩:=h3
 refine ⟨xs,hv,hl2.1,fun j a b ha hb'=>?_⟩
 have hf:FB a:=by
  have hm:=List.mem_of_getElem? ha
  simp only [dDy,List.mem_cons,List.not_mem_nil,or_false] at hm
  rcases hm with rfl|rfl|rfl
  ·exact .val _
  ·exact .row fun d hd=>by obtain ⟨v,_,rfl⟩:=List.mem_map.1 hd;exact .val _
  ·exact .val _
 have h5:BE w (fun t b=>t=false∧S false b) a b:=BE.free (fun b h=>⟨rfl,h⟩) (hl2.2 j a b ha hb') hf
 exact h5.mono (fun t b h=>⟨h.1,.inl h.2⟩) (fun t b h=>hb.block b (hlt _ _ h.2))
theorem Lw {o:List Nat}:∀ {j u v:Nat},o[j]?=some v→AO (o.set j u)+v*4294967296 ^ j=AO o+u*4294967296 ^ j:=by
 induction o with
 | nil=>intro j u v h;simp at h
 | cons y o ih =>
  intro j u v h
  cases j with
  | zero =>
   simp only [List.getElem?_cons_zero,Option.some.injEq] at h
   subst h
   simp only [List.set_cons_zero,AO]
   omega
  | succ j =>
   simp only [List.getElem?_cons_succ] at h
   have:=ih (u:=u) h
   simp only [List.set_cons_succ,AO,Nat.pow_succ]
   rw [←Nat.mul_assoc,←Nat.mul_assoc]
   omega
theorem EY {o:List Nat} {j u:Nat} (h:Az o) (hu:u<4294967296):Az (o.set j u):=fun x hx=>by
 rcases List.mem_or_eq_of_mem_set hx with hx|rfl
 ·exact h x hx
 ·exact hu
structure Qm (b o0:List Nat) (i x k:Nat) (o:List Nat) (c:Nat):Prop where
 len:o.length=o0.length
 ok:Az o
 car:c<4294967296
 val:AO o+c*4294967296 ^ (i+k)=AO o0+x*AO (b.take k)*4294967296 ^ i
 zero:∀ j,i+b.length≤j→j<o0.length→o[j]?=some 0
theorem Qm.fit {b o0:List Nat} {i x k:Nat} {o:List Nat} {c y u:Nat} (h:Qm b o0 i x k o c) (hx:x<4294967296) (hy:y<4294967296) (hu:o[i+k]?=some u):x*y+u<18446744073709551616∧c+(x*y+u)<18446744073709551616:=by
 have h1:x*y≤4294967295*4294967295:=Nat.mul_le_mul (by omega) (by omega)
 have h2:=h.ok u (List.mem_of_getElem? hu)
 have h3:=h.car
 omega
theorem Qm.step {b o0:List Nat} {i x k:Nat} {o:List Nat} {c y u:Nat} (h:Qm b o0 i x k o c) (hx:x<4294967296) (hb:Az b) (hy:b[k]?=some y) (hu:o[i+k]?=some u):Qm b o0 i x (k+1) (o.set (i+k) ((c+(x*y+u)) % 4294967296)) ((c+(x*y+u)) / 4294967296):=by
 obtain ⟨f1,f2⟩:=h.fit hx (hb y (List.mem_of_getElem? hy)) hu
 have hkb:=(List.getElem?_eq_some_iff.1 hy).1
 refine ⟨by rw [List.length_set];exact h.len,EY h.ok (by omega),by omega,?_,fun j h1 h2=>by rw [List.getElem?_set,if_neg (by omega)];exact h.zero j h1 h2⟩
 have hs:=Lw (u:=(c+(x*y+u)) % 4294967296) hu
 have hv:=h.val
 have ht:=Bn b k
 rw [hy,Option.getD_some] at ht
 have hdm:=Nat.div_add_mod (c+(x*y+u)) 4294967296
 rw [ht,Nat.mul_add,Nat.add_mul,show i+(k+1)=(i+k)+1 by omega,Nat.pow_succ]
 generalize hP:4294967296 ^ (i+k)=p at hs hv ⊢
 have e1:x*(4294967296 ^ k*y)*4294967296 ^ i=x*y*p:=by
  rw [←hP,Nat.pow_add]
  simp only [Nat.mul_assoc,Nat.mul_comm,Nat.mul_left_comm]
 rw [e1]
 generalize (c+(x*y+u)) / 4294967296=q at hdm ⊢
 generalize (c+(x*y+u)) % 4294967296=r at hs hdm ⊢
 have e2:q*(p*4294967296)+r*p=(c+(x*y+u))*p:=by
  rw [←hdm,Nat.add_mul,Nat.mul_comm p 4294967296,←Nat.mul_assoc,Nat.mul_comm q 4294967296]
 rw [Nat.add_mul,Nat.add_mul] at e2
 omega
structure Hv (a b:List Nat) (i:Nat) (o:List Nat):Prop where
 len:o.length=a.length+b.length
 ok:Az o
 val:AO o=AO (a.take i)*AO b
 zero:∀ j,i+b.length≤j→j<a.length+b.length→o[j]?=some 0
theorem Hv.start (a b:List Nat):Hv a b 0 (List.replicate (a.length+b.length) 0):=by
 refine ⟨by simp,fun x hx=>by rw [(List.mem_replicate.1 hx).2];decide,by rw [En];simp [AO],fun j _ h2=>by simp [h2]⟩
theorem Hv.enter {a b:List Nat} {i x:Nat} {o:List Nat} (h:Hv a b i o):Qm b o i x 0 o 0 :=
 ⟨rfl,h.ok,by decide,by simp [AO],fun j h1 h2=>h.zero j h1 (by rw [←h.len];exact h2)⟩
theorem Hv.leave {a b:List Nat} {i x:Nat} {o0 o:List Nat} {c:Nat} (h:Hv a b i o0) (hx:a[i]?=some x) (h2:Qm b o0 i x b.length o c):Hv a b (i+1) (o.set (i+b.length) c):=by
 have hi:=(List.getElem?_eq_some_iff.1 hx).1
 have hz:=h2.zero (i+b.length) (Nat.le_refl _) (by rw [h.len];omega)
 have hs:=Lw (u:=c) hz
 refine ⟨by rw [List.length_set,h2.len];exact h.len,EY h2.ok h2.car,?_,fun j h3 h4=>by rw [List.getElem?_set,if_neg (by omega)];exact h2.zero j (by omega) (by rw [h.len];exact h4)⟩
 have hv:=h2.val
 rw [List.take_length] at hv
 have ht:=Bn a i
 rw [hx,Option.getD_some] at ht
 rw [ht,Nat.add_mul,←h.val]
 have e:x*AO b*4294967296 ^ i=4294967296 ^ i*x*AO b:=by simp only [Nat.mul_assoc,Nat.mul_comm,Nat.mul_left_comm]
 omega
theorem Acb (x y:Int):sg (decide (x<0) != decide (y<0)) (x.natAbs*y.natAbs)=x*y:=by
 unfold sg
 have hx:x=if x<0 then -(x.natAbs:Int) else x.natAbs:=by split <;> omega
 have hy:y=if y<0 then -(y.natAbs:Int) else y.natAbs:=by split <;> omega
 by_cases h1:x<0 <;> by_cases h2:y<0
 all_goals
  simp only [h1,h2,decide_true,decide_false,bne_self_eq_false,Bool.false_eq_true,if_true,if_false,Bool.true_bne,Bool.false_bne,Bool.not_false] at hx hy ⊢
  conv=>rhs;rw [hx,hy]
  simp [Int.neg_mul,Int.mul_neg]
def Hw (x:Int) (dx:Nat) (y:Int) (dy:Nat):Int × Nat:=nf (x*y) (dx+dy)
theorem Aex (x:Int):FB (.row false 1 (Ad x.natAbs).length (wds x)):=.row fun d hd=>by obtain ⟨v,_,rfl⟩:=List.mem_map.1 hd;exact .val _
theorem rvW {P:Program} {F:Frm} {H:List Ob} {t:Tmp} {ty ty' id k:Nat} {x:Int} {d:Nat} (hk:TyK P ty true k) (hi:3=k) (hF:F t=.one (.ref id 0 none):=by with_unfolding_all exact rfl) (hH:H[id]?=some (.box ty' ((dDy false x d).map C.d)):=by with_unfolding_all exact rfl):RV P F H (.cell t ty) (aDy false x d) :=
 Ww hF hH hk hi rfl (.cons_ (Db rfl fun _=>.val _) (.cons_ (Db rfl fun _=>Aex x) (.cons_ (Db rfl fun _=>.val _) .nil_)))
theorem WK {P:Program} {G:World→Prop} {o:Oper} {F:Frm} {H:List Ob} {t e:TypeId} {x l:Operand} {tg:Bool} {n s lo:Nat} {k:IntKind} {z:Int} {cs:List D} (ho:o.op=.slice t x (some l) none none) (hx:F.ev x=.one (.d (.row tg s n cs))) (hl:F.ev l=.one (.d (.val (.int k z)))) (hz:z=(lo:Int)) (ht:TyS P t e s) (h1:lo≤n) :
  Bs P G o F H (.one (.d (.row tg s (n - lo) (cs.drop (lo*s))))) []:=Cr fun b0 m a hp hcx hor=>by
 subst hz
 have hv:=BK hor (x:=x) (by rw [ho];simp [Op.operands])
 have el:=DI (m:=m) (v:=a.eval l) (by rw [←hl];exact BK hor (by rw [ho];simp [Op.operands]))
 rw [hx] at hv
 have hv':BE m.w m.S (.row tg s n cs) (a.eval x):=hv
 generalize hxe:a.eval x=u at hv'
 cases hv' with
 | @row _ _ _ cap _ A xs hc hA hln hxl hm hr =>
  obtain ⟨ie,hi1,hi2⟩:=Option.map_eq_some_iff.1 ht.s
  have hls:lo*s≤n*s:=Nat.mul_le_mul_right _ h1
  have e3:(n:Int)≤(cap:Int):=by omega
  have e4:(lo:Int)≤(n:Int):=by omega
  have e6:(0:Int)≤(lo:Int):=by omega
  refine ⟨.slice (if cap=lo then A else A.map (·.add (lo*s))) (n - lo) (cap - lo),?_,BE.row (xs.drop (lo*s)) (by omega) (fun h0=>?_) ?_ ?_ (fun hne=>?_) (fun j u x hu hj=>?_)⟩
  ·unfold execOp
   simp [ho,hxe,el,Instr.sliceAt,Instr.slice,run_underlying ht.h,Instr.sliceBounds,Instr.sliceBound,asIntOf,sizeOf,typeInfo,hi1,hi2,h1,hc]
  ·split at h0
   ·omega
   ·cases A with
    | none=>have:=hA rfl;omega
    | some p=>simp at h0
  ·rw [List.length_drop,hln,Nat.sub_mul]
  ·simp [hxl]
  ·have hcne:cs≠[]:=fun h0=>hne (by rw [h0];simp)
   obtain ⟨b,off,rfl,hb,hcells⟩:=hm hcne
   have hcl:cap≠lo:=fun h0=>hne (by
    refine List.eq_nil_of_length_eq_zero ?_
    rw [List.length_drop,hln,show n=lo by omega,Nat.sub_self])
   rw [if_neg hcl]
   refine ⟨b,off+lo*s,by simp [Addr.add_mid],hb,fun j x hj=>?_⟩
   rw [List.getElem?_drop] at hj
   rw [Nat.add_assoc]
   exact hcells _ x hj
  ·rw [List.getElem?_drop] at hu hj
   exact hr _ u x hu hj
theorem WL (G:World→Prop) (t:Bool) (x:Int) (dx:Nat) (hn:Nf x dx) (l1:(Ad x.natAbs).length≤50000):CVF Tryz.prog G 112 [aDy t x dx] [aDy false (-x) dx]:=fun w S vs hg hlt ha=>by
 obtain ⟨u,hu,h2⟩:=BW ha
 subst hu
 exact (Aep (GS h2 hlt hn) (Nat.le_refl _) (Nat.le_trans l1 (by decide))).mono fun r w' ⟨v,he,hd,hb⟩=>⟨v,he,GC hd,hb⟩
theorem Acc (G:World→Prop) (t t':Bool) (x:Int) (dx:Nat) (y:Int) (dy:Nat) (hn:Nf x dx) (hm:Nf y dy) (l1:(Ad x.natAbs).length≤50000) (l2:(Ad y.natAbs).length≤50000):CVF Tryz.prog G 255 [aDy t x dx,aDy t' y dy] [aDy false (EQ x dx y dy).1 (EQ x dx y dy).2]:=fun w S vs hg hlt ha=>by
 obtain ⟨v,vs',rfl,h1,ha⟩:=ha.uncons
 obtain ⟨u,hu,h2⟩:=BW ha
 subst hu
 exact (AbS (GS h1 hlt hn) (GS h2 hlt hm) (Nat.le_refl _) l1 l2).mono fun r w' ⟨v,he,hd,hb⟩=>⟨v,he,GC hd,hb⟩
theorem Acd (G:World→Prop) (t t':Bool) (x:Int) (dx:Nat) (y:Int) (dy:Nat) (hn:Nf x dx) (hm:Nf y dy) (l1:(Ad x.natAbs).length≤50000) (l2:(Ad y.natAbs).length≤50000):CVF Tryz.prog G 100 [aDy t x dx,aDy t' y dy] [aDy false (EH x dx y dy).1 (EH x dx y dy).2]:=fun w S vs hg hlt ha=>by
 obtain ⟨v,vs',rfl,h1,ha⟩:=ha.uncons
 obtain ⟨u,hu,h2⟩:=BW ha
 subst hu
 exact (AbT (GS h1 hlt hn) (GS h2 hlt hm) (Nat.le_refl _) l1 l2).mono fun r w' ⟨v,he,hd,hb⟩=>⟨v,he,GC hd,hb⟩
def Rp (p:Int × Nat) (X:Int):Prop:=p.1*2 ^ 200=X*2 ^ p.2
structure Sm (p:Int × Nat) (n d:Nat):Prop where
 ok:Nf p.1 p.2
 n:p.1.natAbs<2 ^ n
 d:p.2≤d
theorem WM {n:Nat} (k:Nat) (h:n≤32*k):2 ^ n≤4294967296 ^ k:=by
 rw [show (4294967296:Nat)=2 ^ 32 from rfl,←Nat.pow_mul]
 exact Nat.pow_le_pow_right (by decide) h
theorem Sm.lenN {p:Int × Nat} {n d:Nat} (h:Sm p n d) (k:Nat) (hn:n≤32*k):(Ad p.1.natAbs).length≤k:=Bb (Nat.lt_of_lt_of_le h.n (WM k hn))
theorem Sm.l4 {p:Int × Nat} {n d:Nat} (h:Sm p n d) (hn:n≤32*625:=by decide):(Ad p.1.natAbs).length≤40000:=Nat.le_trans (h.lenN 625 hn) (by decide)
theorem Sm.more {p:Int × Nat} {n d n' d':Nat} (h:Sm p n d) (h1:n≤n') (h2:d≤d'):Sm p n' d':=⟨h.ok,Nat.lt_of_lt_of_le h.n (Nat.pow_le_pow_right (by decide) h1),Nat.le_trans h.d h2⟩
theorem Sm.mk_nf {m:Int} {p n d:Nat} (hd:p≤d) (h:p≤65536) (hm:m.natAbs<2 ^ n):Sm (nf m p) n d:=⟨Nf.nf h,Nat.lt_of_le_of_lt (Er m p) hm,Nat.le_trans (AaJ m p) hd⟩
theorem Sm.shift {x k:Int} {n:Nat} (h1 : -200≤k) (h2:k≤200) (hx:x.natAbs<2 ^ n):Sm (Ai x 0 k) (n+200) 200:=by
 unfold Ai
 rw [show max (-65536) (min k 65536)=k by omega]
 split
 ·exact (Sm.mk_nf (by omega) (by omega) hx).more (by omega) (Nat.le_refl _)
 ·refine Sm.mk_nf (by omega) (by omega) ?_
  rw [Int.natAbs_mul,Int.natAbs_pow,Nat.pow_add]
  exact Nat.lt_of_le_of_lt (Nat.mul_le_mul_left _ (Nat.pow_le_pow_right (by decide) (show k.toNat≤200 by omega))) (Nat.mul_lt_mul_of_pos_right hx (Nat.pow_pos (by decide)))
section
variable {p q:Int × Nat} {X Y Z:Int} {n m d:Nat}
theorem Sm.neg (h:Sm p n d):Sm (-p.1,p.2) n d:=⟨⟨h.ok.1,fun h0=>by have:=h.ok.2 h0;show (-p.1) % 2=1;omega⟩,by show (-p.1).natAbs<_;rw [Int.natAbs_neg];exact h.n,h.d⟩
theorem Sm.abs (h:Sm p n d):Sm (((p.1.natAbs:Nat):Int),p.2) n d:=⟨⟨h.ok.1,fun h0=>by have:=h.ok.2 h0;show ((p.1.natAbs:Nat):Int) % 2=1;omega⟩,h.n,h.d⟩
theorem Sm.sum (h:Sm p n d) (h2:Sm q n d) (hd:d≤65536):Sm (Cw p.1 p.2 q.1 q.2) (n+d+1) d:=by
 have e:∀ r:Int × Nat,Sm r n d→(r.1*2 ^ (Max.max p.2 q.2 - r.2)).natAbs<2 ^ (n+d):=fun r hr=>by
  rw [Int.natAbs_mul,Int.natAbs_pow,Nat.pow_add]
  have hpd:=h.d
  have hqd:=h2.d
  exact Nat.lt_of_le_of_lt (Nat.mul_le_mul_left _ (Nat.pow_le_pow_right (by decide) (show Max.max p.2 q.2 - r.2≤d by omega))) (Nat.mul_lt_mul_of_pos_right hr.n (Nat.pow_pos (by decide)))
 have hpd:=h.d
 have hqd:=h2.d
 refine Sm.mk_nf (by omega) (by omega) ?_
 have h3:=e p h
 have h4:=e q h2
 have h5:=Int.natAbs_add_le (p.1*2 ^ (Max.max p.2 q.2 - p.2)) (q.1*2 ^ (Max.max p.2 q.2 - q.2))
 rw [Nat.pow_succ]
 omega
theorem Sm.mul (h:Sm p n d) (h2:Sm q n d) (hd:d≤30000):Sm (Hw p.1 p.2 q.1 q.2) (n+n) (d+d):=by
 have hpd:=h.d
 have hqd:=h2.d
 refine Sm.mk_nf (by omega) (by omega) ?_
 rw [Int.natAbs_mul,Nat.pow_add]
 exact Nat.mul_lt_mul'' h.n h2.n
theorem Sm.min (h:Sm p n d) (h2:Sm q n d):Sm (EQ p.1 p.2 q.1 q.2) n d:=by
 unfold EQ
 split
 ·exact h2
 ·exact h
theorem Sm.max (h:Sm p n d) (h2:Sm q n d):Sm (EH p.1 p.2 q.1 q.2) n d:=by
 unfold EH
 split
 ·exact h2
 ·exact h
end
def dyP (p:Int × Nat):List D:=dDy false p.1 p.2
theorem MV {l:List (Int × Nat)} {k:Nat} {p:Int × Nat} (h:l[k]?=some p):((AN dyP l).drop (k*3)).take 3=dyP p:=Fh (f:=dyP) (s:=3) (fun _=>rfl) h
def blkD (y:Bk) (l:List (Int × Nat)):Int × Nat :=
 if y.kind=1 then Ai y.vn 0 y.ve
 else if y.kind=3 then Cw (l[0]?.getD (0,0)).1 (l[0]?.getD (0,0)).2 (l[1]?.getD (0,0)).1 (l[1]?.getD (0,0)).2
 else if y.kind=4 then Cw (l[0]?.getD (0,0)).1 (l[0]?.getD (0,0)).2 (-(l[1]?.getD (0,0)).1) (l[1]?.getD (0,0)).2
 else if y.kind=5 then (-(l[0]?.getD (0,0)).1,(l[0]?.getD (0,0)).2)
 else if y.kind=6 then Hw (Ai y.vn 0 y.ve).1 (Ai y.vn 0 y.ve).2 (l[0]?.getD (0,0)).1 (l[0]?.getD (0,0)).2
 else if y.kind=7 then Hw (l[0]?.getD (0,0)).1 (l[0]?.getD (0,0)).2 (l[1]?.getD (0,0)).1 (l[1]?.getD (0,0)).2
 else if y.kind=8 then EQ (l[0]?.getD (0,0)).1 (l[0]?.getD (0,0)).2 (l[1]?.getD (0,0)).1 (l[1]?.getD (0,0)).2
 else if y.kind=9 then EH (l[0]?.getD (0,0)).1 (l[0]?.getD (0,0)).2 (l[1]?.getD (0,0)).1 (l[1]?.getD (0,0)).2
 else if y.kind=10 then ((((l[0]?.getD (0,0)).1.natAbs:Nat):Int),(l[0]?.getD (0,0)).2)
 else EQ (EH (l[0]?.getD (0,0)).1 (l[0]?.getD (0,0)).2 (Ai y.vn 0 y.ve).1 (Ai y.vn 0 y.ve).2).1 (EH (l[0]?.getD (0,0)).1 (l[0]?.getD (0,0)).2 (Ai y.vn 0 y.ve).1 (Ai y.vn 0 y.ve).2).2 (Ai y.un 0 y.ue).1 (Ai y.un 0 y.ue).2
end Go.Proofs.YtmdfjbpggbhgnaaGreatDoor
