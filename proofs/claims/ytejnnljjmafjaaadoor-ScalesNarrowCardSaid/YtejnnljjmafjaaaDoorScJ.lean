/- How many shifts scales need. Conditions: lists not too long; the table of math/bits stands in block 0. How many shifts scales need, as the document has it. Conditions: lists not too long; the diagram is accepted. -/
import Derived.Test.YtejnnljjmafjaaaDoorScH
namespace Go.Proofs.YtejnnljjmafjaaaDoor
set_option linter.unusedVariables false
set_option linter.unusedSimpArgs false
set_option linter.unusedSectionVars false
open Go.RowKit

def prt0 : Prt := ⟨0, 0, 0⟩
/-- Whether an argument has another scale. -/
def sh1 (ps : List Prt) (F : List Int) (kind f a : Int) : Bool := if kind = 0 then decide ((ps[a.toNat]?.getD prt0).fr ≠ f) else decide (F[a.toNat]?.getD 0 ≠ f)
def shB (ps : List Prt) (F : List Int) (i : Nat) (b : Bk) : Nat := (b.args.filter (sh1 ps F b.kind (F[i]?.getD 0))).length
def shK (ps : List Prt) (bs : List Bk) (F : List Int) : Nat → Nat
  | 0 => 0
  | k + 1 => shK ps bs F k + shB ps F k (bs[k]?.getD bk0)
def shV (g : Int) (d : Dg) (F : List Int) : Int := if fiE g d.bs.length F = 0 then (shK d.ps d.bs F d.bs.length : Int) else 0
theorem dgb {ps : List Prt} {bs : List Bk} {os : List Int} {k : Nat} {b : Bk} (h : dgErr ps bs os = 0) (hb : bs[k]? = some b) : blkErr ps.length bs.length b = 0 :=
  firstErr_zero (pre_blk (pre_of h).2.1) _ (List.mem_map_of_mem (List.mem_of_getElem? hb))
theorem arity_le (k : Int) : arityM k ≤ 2 := by unfold arityM; split <;> (try split) <;> (try split) <;> omega
theorem shK_succ {ps : List Prt} {bs : List Bk} {F : List Int} {k : Nat} {b : Bk} (h : bs[k]? = some b) : shK ps bs F (k + 1) = shK ps bs F k + shB ps F k b := by
  show shK ps bs F k + shB ps F k (bs[k]?.getD bk0) = _
  rw [h]
  rfl
theorem shK_le {ps : List Prt} {bs : List Bk} {os F : List Int} (h : dgErr ps bs os = 0) : ∀ k, k ≤ bs.length → shK ps bs F k ≤ 2 * k
  | 0, _ => Nat.le_refl _
  | k + 1, hk => by
    have ih := shK_le h (F := F) k (by omega)
    have hx := List.getElem?_eq_getElem (show k < bs.length by omega)
    rw [shK_succ hx]
    have h1 := (blk_args (dgb h hx)).2.1
    have h2 := arity_le bs[k].kind
    have h3 : shB ps F k bs[k] ≤ bs[k].args.length := List.length_filter_le _ _
    omega
theorem sh1_0 {ps : List Prt} {F : List Int} {f : Int} {a : Nat} {p : Prt} (h : ps[a]? = some p) : sh1 ps F 0 f (a : Int) = decide (p.fr ≠ f) := by
  unfold sh1
  rw [if_pos rfl, Int.toNat_natCast, h]
  rfl
theorem sh1_n {ps : List Prt} {F : List Int} {kind f z : Int} {a : Nat} (hk : ¬ kind = 0) (h : F[a]? = some z) : sh1 ps F kind f (a : Int) = decide (z ≠ f) := by
  unfold sh1
  rw [if_neg hk, Int.toNat_natCast, h]
  rfl
theorem cnt_no {p : Int → Bool} {l : List Int} {t : Nat} {a : Int} (h : l[t]? = some a) (hp : p a = false) : ((l.take (t + 1)).filter p).length = ((l.take t).filter p).length := by
  rw [List.take_add_one, h]
  simp [List.filter_append, hp]
theorem cnt_yes {p : Int → Bool} {l : List Int} {t : Nat} {a : Int} (h : l[t]? = some a) (hp : p a = true) : ((l.take (t + 1)).filter p).length = ((l.take t).filter p).length + 1 := by
  rw [List.take_add_one, h]
  simp [List.filter_append, hp]
def sh1R (w : World) (vs : List Value) (ps : List Prt) (bs : List Bk) (F : List Int) (n i : Value) (wr : World) : Prop :=
  ∃ k : Nat, k ≤ bs.length ∧ i = .int .i64 (k : Int) ∧ n = .int .i64 (shK ps bs F k : Int) ∧ RowD wr w.heap.size vs 26 ∧ Below w.heap.size w wr
def sh2R (W : World) (S : Nat) (ps : List Prt) (F : List Int) (kind f : Int) (args : List Int) (n i : Value) (wr : World) : Prop :=
  ∃ t : Nat, t ≤ args.length ∧ i = .int .i64 (t : Int) ∧ n = .int .i64 ((S + ((args.take t).filter (sh1 ps F kind f)).length : Nat) : Int) ∧ Below W.heap.size W wr
set_option maxRecDepth 100000 in
set_option maxHeartbeats 4000000 in
theorem pshifts_any (d : Dg) (AF : Option Addr) (F : List Int) (cf m : Nat) (w : World) (hm : m ≤ w.heap.size) (hd : DgAt w m d) (hF : CellsAt w m AF (ints F)) (hn2 : F.length ≤ 1000) (ht : TabAt w) :
    Calls Tryd.prog 17 #[d.val, .slice AF F.length cf] w fun e w' => e = .returned (.tuple #[.int .i64 (shV (dgErr d.ps d.bs d.os) d F), errV (fiE (dgErr d.ps d.bs d.os) d.bs.length F)]) ∧ Below w.heap.size w w' := by
  have hl2 := hd.l2
  have HD := Lib.hid hd
  have HFC := Lib.hid hF
  have HMM := Lib.hid hm
  have HT := Lib.hid ht
  clear ht
  clear hd hF
  obtain ⟨A1, ps, c1, A2, bs, c2, A3, os, c3⟩ := d
  dsimp only at hl2
  simp only [Dg.val]
  have R0 := Lib.hid (RowD.new_ w [.slice A1 ps.length c1, .slice A2 bs.length c2, .slice A3 os.length c3] 26)
  have B0 := Lib.hid (al_ w (.cells #[.slice A1 ps.length c1, .slice A2 bs.length c2, .slice A3 os.length c3] 26))
  obtain ⟨E, hE⟩ : ∃ E, dgErr ps bs os = E := ⟨_, rfl⟩
  have HE := Lib.hid hE
  rw [show dgErr ps bs os = E from hE]
  clear hE
  go_enter Tryd.func17, Tryd.ntmps17
  go_wp2_with fail
  go_at_call 11
  refine (Check_any ⟨A1, ps, c1, A2, bs, c2, A3, os, c3⟩ m _ (by simp; omega) (HD.out.below B0.out hm) (HT.out.below B0.out HT.out.1)).mono ?_
  rintro e w1 ⟨rfl, hb1⟩
  dsimp only
  rw [HE.out]
  have R1 := Lib.hid (R0.out.call hb1)
  have B1 := Lib.hid (B0.out.trans (hb1.mono B0.out.size))
  have q1 : w1.cell? ⟨w.heap.size, 1, none⟩ = some (.slice A2 bs.length c2) := R1.out.cell 1
  have hbx := R1.out.lt
  clear hb1 R0 B0
  by_cases he0 : E = 0
  case neg =>
    have HF := Lib.hid (show fiE E bs.length F = E from if_neg he0)
    have HB := Lib.hid (show shV E ⟨A1, ps, c1, A2, bs, c2, A3, os, c3⟩ F = 0 from if_neg (by rw [show fiE E _ F = E from if_neg he0]; exact he0))
    have HEN := Lib.hid (errV_n he0)
    clear he0
    rw [HEN.out]
    go_wp2_with fail
    refine bodyPost_ret (v := .tuple #[.int .i64 0, .iface 44 (.int .i64 E)]) (by simp [results, Tryd.results17, go_sem]) rfl ⟨by rw [HB.out, HF.out, HEN.out], B1.out⟩
  have he := HE.out.trans he0
  obtain rfl : E = 0 := he0
  rw [errV_0]
  have HE0 := Lib.hid he
  have hsz64 : bs.length ≤ 64 := (pre_of he).1.2.1
  clear he
  by_cases hfl : F.length = bs.length
  case neg =>
    have hfb : ((F.length : Int) != (bs.length : Int)) = true := by simp; omega
    have HF := Lib.hid (show fiE 0 bs.length F = 11 from (if_pos rfl).trans (if_neg hfl))
    have HB := Lib.hid (show shV 0 ⟨A1, ps, c1, A2, bs, c2, A3, os, c3⟩ F = 0 from if_neg (by rw [show fiE 0 _ F = 11 from (if_pos rfl).trans (if_neg hfl)]; decide))
    clear hfl
    go_wp2_with fail
    refine bodyPost_ret (v := .tuple #[.int .i64 0, .iface 44 (.int .i64 11)]) (by simp [results, Tryd.results17, go_sem]) rfl ⟨by rw [HB.out, HF.out]; rfl, B1.out⟩
  have hfb : ((F.length : Int) != (bs.length : Int)) = false := by simp; omega
  have HF := Lib.hid (show fiE 0 bs.length F = 0 from (if_pos rfl).trans (if_pos hfl))
  have HB0 := Lib.hid (show shV 0 ⟨A1, ps, c1, A2, bs, c2, A3, os, c3⟩ F = (shK ps bs F bs.length : Int) from if_pos ((if_pos rfl).trans (if_pos hfl)))
  have HFL := Lib.hid hfl
  have hfl2 : bs.length = F.length := by omega
  have HFL2 := Lib.hid hfl2
  clear hfl hfl2
  go_wp2_with fail
  clear q1
  go_loopw [7, 27] (fun n i wr => sh1R w [.slice A1 ps.length c1, .slice A2 bs.length c2, .slice A3 os.length c3] ps bs F n i wr) (fun _ i _ => bs.length - (intOf i).toNat)
  case atStart => exact ⟨0, Nat.zero_le _, rfl, rfl, R1.out, B1.out⟩
  case round =>
    clear R1 B1 hbx
    obtain ⟨k, hk, rfl, rfl, hbox, hb⟩ := hrel
    have hsk := shK_le (ps := ps) (F := F) HE0.out k hk
    have HBX := Lib.hid hbox
    have hbl := hbox.lt
    clear hbox
    by_cases hlt : k < bs.length
    · obtain ⟨b, off, kind, A, args, cap, vn, ve, un, ue, hA, hbm, hbs, hx, g0, g1, g2, g3, g4, g5, ha, hl⟩ := (HD.out.below hb hm).blk hlt
      dsimp only at hA hx
      subst hA
      have hsz := hb.size
      obtain ⟨bf, of, f, rfl, hfm, hfs, hf, gf⟩ := (HFC.out.below hb hm).int_ (k := k) (by have := HFL.out; omega)
      have hkf : (k : Int) < (F.length : Int) := by have := HFL.out; omega
      have hki : (k : Int) < (bs.length : Int) := by omega
      have hbe := blk_args (dgb HE0.out hx)
      dsimp only at hbe
      have hal : args.length ≤ 2 := by have := arity_le kind; omega
      have HAR := Lib.hid hbe.2.2
      have HX := Lib.hid hx
      have HFK := Lib.hid hf
      have HAA := Lib.hid ha
      clear hx hf hbe ha hl
      go_wp2_with fail
      obtain ⟨W, hW⟩ : ∃ W, W = wr.alloc (.cells #[.int .i64 kind, .slice A args.length cap, .int .i64 vn, .int .i64 ve, .int .i64 un, .int .i64 ue] 50) := ⟨_, rfl⟩
      obtain ⟨q, hq⟩ : ∃ q, q = wr.heap.size := ⟨_, rfl⟩
      have rW : RowD W q [.int .i64 kind, .slice A args.length cap, .int .i64 vn, .int .i64 ve, .int .i64 un, .int .i64 ue] 50 := by rw [hW, hq]; exact RowD.new_ _ _ _
      have bW : Below wr.heap.size wr W := by rw [hW]; exact al_ _ _
      rw [← hW, ← hq]
      have HB2 := Lib.hid (hb.trans (bW.mono hsz))
      have HBX2 := Lib.hid (HBX.out.call bW)
      have HAW := Lib.hid (HAA.out.below bW (by omega))
      have HRW := Lib.hid rW
      have hmW : m ≤ W.heap.size := by have := bW.size; omega
      obtain ⟨S, hS⟩ : ∃ S, S = shK ps bs F k := ⟨_, rfl⟩
      have HS := Lib.hid hS
      rw [← hS] at hsk
      rw [← hS]
      clear hW hq rW bW g0 g1 g2 g3 g4 g5 gf hfs hbs hS hb hsz hbl
      go_loopw [7, 35] (fun n i wr => sh2R W S ps F kind f args n i wr) (fun _ i _ => args.length - (intOf i).toNat)
      case atStart => exact ⟨0, Nat.zero_le _, rfl, by simp, Below.refl _ _⟩
      case round =>
        obtain ⟨t, ht, rfl, rfl, hb⟩ := hrel
        rename World => w5
        have hcl : ((args.take t).filter (sh1 ps F kind f)).length ≤ t := Nat.le_trans (List.length_filter_le _ _) (List.length_take_le _ _)
        obtain ⟨C, hC⟩ : ∃ C, C = ((args.take t).filter (sh1 ps F kind f)).length := ⟨_, rfl⟩
        rw [← hC] at hcl
        rw [← hC]
        have HC := Lib.hid hC
        clear hC
        have r5 := HRW.out.call hb
        have hsz5 := hb.size
        have hbx5 := HBX2.out.call hb
        have hq5 := r5.lt
        have hx5 := hbx5.lt
        have HBB := Lib.hid (HB2.out.trans (hb.mono HB2.out.size))
        by_cases hta : t < args.length
        · obtain ⟨ab, ao, a, hAA2, ham, has, hav, ga⟩ := (HAW.out.below hb hmW).int_ hta
          subst hAA2
          have har := HAR.out a (List.mem_of_getElem? hav)
          obtain ⟨a, rfl⟩ := Int.eq_ofNat_of_zero_le har.1
          have HAV := Lib.hid hav
          have hti : (t : Int) < (args.length : Int) := by omega
          have k0 : w5.cell? ⟨q, 0, none⟩ = some (.int .i64 kind) := r5.cell 0
          have k1 : w5.cell? ⟨q, 1, none⟩ = some (.slice (some ⟨ab, ao, none⟩) args.length cap) := r5.cell 1
          have x0 : w5.cell? ⟨w.heap.size, 0, none⟩ = some (.slice A1 ps.length c1) := hbx5.cell 0
          obtain ⟨bf', of', f', hF', hfm', hfs', hf', gf⟩ := (HFC.out.below HBB.out hm).int_ (k := k) (by have := HFL.out; omega)
          cases hF'
          rw [HFK.out] at hf'
          obtain rfl : f = f' := by simpa using hf'
          clear hav hf' hfs' hfm' r5 hbx5
          by_cases hk0 : kind = 0
          · subst hk0
            have hap : a < ps.length := by have := har.2; unfold mostM at this; rw [if_pos rfl] at this; omega
            have hai : (a : Int) < (ps.length : Int) := by omega
            obtain ⟨pb, po, p, hpA, hpm, hps, hp, hpc⟩ := (HD.out.below HBB.out hm).ps.row (s := 3) (fun _ => rfl) (by omega) hap
            dsimp only at hpA hp
            subst hpA
            have gp : w5.cell? ⟨pb, po + a * 3 + 2, none⟩ = some (.int .i64 p.fr) := hpc 2 _ rfl
            have HS1 := Lib.hid (show sh1 ps F 0 f (a : Int) = decide (p.fr ≠ f) from sh1_0 hp)
            clear hpc hp har
            by_cases hne : p.fr = f
            · have hnb : (p.fr != f) = false := by rw [hne]; simp
              have HS2 := Lib.hid (HS1.out.trans (decide_eq_false (not_not_intro hne)))
              clear hne
              go_wp2_with fail
              go_quiet (fail)
              go_wp2_with fail
              exact ⟨⟨t + 1, by omega, by go_num, by rw [cnt_no HAV.out HS2.out, ← HC.out], ext_drewN hb _⟩, by simp [intOf]; omega⟩
            · have hnb : (p.fr != f) = true := by simpa using hne
              have HS2 := Lib.hid (HS1.out.trans (decide_eq_true hne))
              clear hne
              go_wp2_with fail
              go_quiet (fail)
              go_wp2_with fail
              exact ⟨⟨t + 1, by omega, by go_num, by rw [cnt_yes HAV.out HS2.out, ← HC.out]; go_num, ext_drewN hb _⟩, by simp [intOf]; omega⟩
          · have hkb : (kind == 0) = false := by simpa using hk0
            have hkn : (kind != 0) = true := by simpa using hk0
            have hap : a < F.length := by have := har.2; unfold mostM at this; rw [if_neg hk0] at this; have := HFL.out; omega
            have hai : (a : Int) < (F.length : Int) := by omega
            obtain ⟨bf', of', z, hF', hfm', hfs', hz, gz⟩ := (HFC.out.below HBB.out hm).int_ hap
            cases hF'
            have HS1 := Lib.hid (show sh1 ps F kind f (a : Int) = decide (z ≠ f) from sh1_n hk0 hz)
            clear hz har hk0 hfm' hfs'
            by_cases hne : z = f
            · have hnb : (z != f) = false := by rw [hne]; simp
              have HS2 := Lib.hid (HS1.out.trans (decide_eq_false (not_not_intro hne)))
              clear hne
              go_wp2_with fail
              go_quiet (fail)
              go_wp2_with fail
              exact ⟨⟨t + 1, by omega, by go_num, by rw [cnt_no HAV.out HS2.out, ← HC.out], ext_drewN hb _⟩, by simp [intOf]; omega⟩
            · have hnb : (z != f) = true := by simpa using hne
              have HS2 := Lib.hid (HS1.out.trans (decide_eq_true hne))
              clear hne
              go_wp2_with fail
              go_quiet (fail)
              go_wp2_with fail
              exact ⟨⟨t + 1, by omega, by go_num, by rw [cnt_yes HAV.out HS2.out, ← HC.out]; go_num, ext_drewN hb _⟩, by simp [intOf]; omega⟩
        · have hke : args.take t = args := List.take_of_length_le (by omega)
          have HC2 := Lib.hid (show C = shB ps F k ⟨kind, A, args, cap, vn, ve, un, ue⟩ by rw [HC.out, hke]; unfold shB; rw [HFK.out]; rfl)
          have HBX3 := Lib.hid hbx5
          clear hke r5 hbx5
          go_wp2_with fail
          exact ⟨⟨k + 1, by omega, by go_num, by rw [shK_succ HX.out, ← HS.out, ← HC2.out], HBX3.out, HBB.out⟩, by simp [intOf]; omega⟩
    · have hke : k = bs.length := by omega
      subst hke
      have HB := HB0
      go_wp2_with fail
      refine bodyPost_ret (v := .tuple #[.int .i64 (shK ps bs F bs.length : Int), .nilIface]) (by simp [results, Tryd.results17, go_sem]) rfl ⟨by rw [HB.out, HF.out]; rfl, hb⟩
end Go.Proofs.YtejnnljjmafjaaaDoor
namespace Go.Proofs.YtejnnljjmafjaaaDoor
set_option linter.unusedVariables false
set_option linter.unusedSimpArgs false
set_option linter.unusedSectionVars false
open Go.RowKit

set_option maxRecDepth 100000 in
set_option maxHeartbeats 4000000 in
theorem rshifts_any (d : Dg) (AF : Option Addr) (F : List Int) (cf m : Nat) (w : World) (hm : m ≤ w.heap.size) (hd : DgAt w m d) (hF : CellsAt w m AF (ints F)) (hn2 : F.length ≤ 1000) (he : dgErr d.ps d.bs d.os = 0) :
    Calls Tryd.prog 25 #[d.val, .slice AF F.length cf] w fun e w' => e = .returned (.tuple #[.int .i64 (shV 0 d F), .int .i64 (fiE 0 d.bs.length F)]) ∧ Below w.heap.size w w' := by
  have hl2 := hd.l2
  have HD := Lib.hid hd
  have HFC := Lib.hid hF
  have HMM := Lib.hid hm
  clear hd hF
  obtain ⟨A1, ps, c1, A2, bs, c2, A3, os, c3⟩ := d
  dsimp only at hl2 he
  simp only [Dg.val]
  have R0 := Lib.hid (RowD.new_ w [.slice A1 ps.length c1, .slice A2 bs.length c2, .slice A3 os.length c3] 26)
  have B0 := Lib.hid (al_ w (.cells #[.slice A1 ps.length c1, .slice A2 bs.length c2, .slice A3 os.length c3] 26))
  have R1 := R0
  have B1 := B0
  have hbx : w.heap.size < (w.alloc (.cells #[.slice A1 ps.length c1, .slice A2 bs.length c2, .slice A3 os.length c3] 26)).heap.size := by simp
  clear R0 B0
  go_enter Tryd.func25, Tryd.ntmps25
  have HE0 := Lib.hid he
  have hsz64 : bs.length ≤ 64 := (pre_of he).1.2.1
  clear he
  by_cases hfl : F.length = bs.length
  case neg =>
    have hfb : ((F.length : Int) != (bs.length : Int)) = true := by simp; omega
    have HF := Lib.hid (show fiE 0 bs.length F = 11 from (if_pos rfl).trans (if_neg hfl))
    have HB := Lib.hid (show shV 0 ⟨A1, ps, c1, A2, bs, c2, A3, os, c3⟩ F = 0 from if_neg (by rw [show fiE 0 _ F = 11 from (if_pos rfl).trans (if_neg hfl)]; decide))
    clear hfl
    go_wp2_with fail
    refine bodyPost_ret (v := .tuple #[.int .i64 0, .int .i64 11]) (by simp [results, Tryd.results25, go_sem]) rfl ⟨by rw [HB.out, HF.out], B1.out⟩
  have hfb : ((F.length : Int) != (bs.length : Int)) = false := by simp; omega
  have HF := Lib.hid (show fiE 0 bs.length F = 0 from (if_pos rfl).trans (if_pos hfl))
  have HB0 := Lib.hid (show shV 0 ⟨A1, ps, c1, A2, bs, c2, A3, os, c3⟩ F = (shK ps bs F bs.length : Int) from if_pos ((if_pos rfl).trans (if_pos hfl)))
  have HFL := Lib.hid hfl
  have hfl2 : bs.length = F.length := by omega
  have HFL2 := Lib.hid hfl2
  clear hfl hfl2
  go_wp2_with fail
  skip
  go_loopw [6, 20] (fun n i wr => sh1R w [.slice A1 ps.length c1, .slice A2 bs.length c2, .slice A3 os.length c3] ps bs F n i wr) (fun _ i _ => bs.length - (intOf i).toNat)
  case atStart => exact ⟨0, Nat.zero_le _, rfl, rfl, R1.out, B1.out⟩
  case round =>
    clear R1 B1 hbx
    obtain ⟨k, hk, rfl, rfl, hbox, hb⟩ := hrel
    have hsk := shK_le (ps := ps) (F := F) HE0.out k hk
    have HBX := Lib.hid hbox
    have hbl := hbox.lt
    clear hbox
    by_cases hlt : k < bs.length
    · obtain ⟨b, off, kind, A, args, cap, vn, ve, un, ue, hA, hbm, hbs, hx, g0, g1, g2, g3, g4, g5, ha, hl⟩ := (HD.out.below hb hm).blk hlt
      dsimp only at hA hx
      subst hA
      have hsz := hb.size
      obtain ⟨bf, of, f, rfl, hfm, hfs, hf, gf⟩ := (HFC.out.below hb hm).int_ (k := k) (by have := HFL.out; omega)
      have hkf : (k : Int) < (F.length : Int) := by have := HFL.out; omega
      have hki : (k : Int) < (bs.length : Int) := by omega
      have hbe := blk_args (dgb HE0.out hx)
      dsimp only at hbe
      have hal : args.length ≤ 2 := by have := arity_le kind; omega
      have HAR := Lib.hid hbe.2.2
      have HX := Lib.hid hx
      have HFK := Lib.hid hf
      have HAA := Lib.hid ha
      clear hx hf hbe ha hl
      go_wp2_with fail
      obtain ⟨W, hW⟩ : ∃ W, W = wr.alloc (.cells #[.int .i64 kind, .slice A args.length cap, .int .i64 vn, .int .i64 ve, .int .i64 un, .int .i64 ue] 50) := ⟨_, rfl⟩
      obtain ⟨q, hq⟩ : ∃ q, q = wr.heap.size := ⟨_, rfl⟩
      have rW : RowD W q [.int .i64 kind, .slice A args.length cap, .int .i64 vn, .int .i64 ve, .int .i64 un, .int .i64 ue] 50 := by rw [hW, hq]; exact RowD.new_ _ _ _
      have bW : Below wr.heap.size wr W := by rw [hW]; exact al_ _ _
      rw [← hW, ← hq]
      have HB2 := Lib.hid (hb.trans (bW.mono hsz))
      have HBX2 := Lib.hid (HBX.out.call bW)
      have HAW := Lib.hid (HAA.out.below bW (by omega))
      have HRW := Lib.hid rW
      have hmW : m ≤ W.heap.size := by have := bW.size; omega
      obtain ⟨S, hS⟩ : ∃ S, S = shK ps bs F k := ⟨_, rfl⟩
      have HS := Lib.hid hS
      rw [← hS] at hsk
      rw [← hS]
      clear hW hq rW bW g0 g1 g2 g3 g4 g5 gf hfs hbs hS hb hsz hbl
      go_loopw [6, 28] (fun n i wr => sh2R W S ps F kind f args n i wr) (fun _ i _ => args.length - (intOf i).toNat)
      case atStart => exact ⟨0, Nat.zero_le _, rfl, by simp, Below.refl _ _⟩
      case round =>
        obtain ⟨t, ht, rfl, rfl, hb⟩ := hrel
        rename World => w5
        have hcl : ((args.take t).filter (sh1 ps F kind f)).length ≤ t := Nat.le_trans (List.length_filter_le _ _) (List.length_take_le _ _)
        obtain ⟨C, hC⟩ : ∃ C, C = ((args.take t).filter (sh1 ps F kind f)).length := ⟨_, rfl⟩
        rw [← hC] at hcl
        rw [← hC]
        have HC := Lib.hid hC
        clear hC
        have r5 := HRW.out.call hb
        have hsz5 := hb.size
        have hbx5 := HBX2.out.call hb
        have hq5 := r5.lt
        have hx5 := hbx5.lt
        have HBB := Lib.hid (HB2.out.trans (hb.mono HB2.out.size))
        by_cases hta : t < args.length
        · obtain ⟨ab, ao, a, hAA2, ham, has, hav, ga⟩ := (HAW.out.below hb hmW).int_ hta
          subst hAA2
          have har := HAR.out a (List.mem_of_getElem? hav)
          obtain ⟨a, rfl⟩ := Int.eq_ofNat_of_zero_le har.1
          have HAV := Lib.hid hav
          have hti : (t : Int) < (args.length : Int) := by omega
          have k0 : w5.cell? ⟨q, 0, none⟩ = some (.int .i64 kind) := r5.cell 0
          have k1 : w5.cell? ⟨q, 1, none⟩ = some (.slice (some ⟨ab, ao, none⟩) args.length cap) := r5.cell 1
          have x0 : w5.cell? ⟨w.heap.size, 0, none⟩ = some (.slice A1 ps.length c1) := hbx5.cell 0
          obtain ⟨bf', of', f', hF', hfm', hfs', hf', gf⟩ := (HFC.out.below HBB.out hm).int_ (k := k) (by have := HFL.out; omega)
          cases hF'
          rw [HFK.out] at hf'
          obtain rfl : f = f' := by simpa using hf'
          clear hav hf' hfs' hfm' r5 hbx5
          by_cases hk0 : kind = 0
          · subst hk0
            have hap : a < ps.length := by have := har.2; unfold mostM at this; rw [if_pos rfl] at this; omega
            have hai : (a : Int) < (ps.length : Int) := by omega
            obtain ⟨pb, po, p, hpA, hpm, hps, hp, hpc⟩ := (HD.out.below HBB.out hm).ps.row (s := 3) (fun _ => rfl) (by omega) hap
            dsimp only at hpA hp
            subst hpA
            have gp : w5.cell? ⟨pb, po + a * 3 + 2, none⟩ = some (.int .i64 p.fr) := hpc 2 _ rfl
            have HS1 := Lib.hid (show sh1 ps F 0 f (a : Int) = decide (p.fr ≠ f) from sh1_0 hp)
            clear hpc hp har
            by_cases hne : p.fr = f
            · have hnb : (p.fr != f) = false := by rw [hne]; simp
              have HS2 := Lib.hid (HS1.out.trans (decide_eq_false (not_not_intro hne)))
              clear hne
              go_wp2_with fail
              go_quiet (fail)
              go_wp2_with fail
              exact ⟨⟨t + 1, by omega, by go_num, by rw [cnt_no HAV.out HS2.out, ← HC.out], ext_drewN hb _⟩, by simp [intOf]; omega⟩
            · have hnb : (p.fr != f) = true := by simpa using hne
              have HS2 := Lib.hid (HS1.out.trans (decide_eq_true hne))
              clear hne
              go_wp2_with fail
              go_quiet (fail)
              go_wp2_with fail
              exact ⟨⟨t + 1, by omega, by go_num, by rw [cnt_yes HAV.out HS2.out, ← HC.out]; go_num, ext_drewN hb _⟩, by simp [intOf]; omega⟩
          · have hkb : (kind == 0) = false := by simpa using hk0
            have hkn : (kind != 0) = true := by simpa using hk0
            have hap : a < F.length := by have := har.2; unfold mostM at this; rw [if_neg hk0] at this; have := HFL.out; omega
            have hai : (a : Int) < (F.length : Int) := by omega
            obtain ⟨bf', of', z, hF', hfm', hfs', hz, gz⟩ := (HFC.out.below HBB.out hm).int_ hap
            cases hF'
            have HS1 := Lib.hid (show sh1 ps F kind f (a : Int) = decide (z ≠ f) from sh1_n hk0 hz)
            clear hz har hk0 hfm' hfs'
            by_cases hne : z = f
            · have hnb : (z != f) = false := by rw [hne]; simp
              have HS2 := Lib.hid (HS1.out.trans (decide_eq_false (not_not_intro hne)))
              clear hne
              go_wp2_with fail
              go_quiet (fail)
              go_wp2_with fail
              exact ⟨⟨t + 1, by omega, by go_num, by rw [cnt_no HAV.out HS2.out, ← HC.out], ext_drewN hb _⟩, by simp [intOf]; omega⟩
            · have hnb : (z != f) = true := by simpa using hne
              have HS2 := Lib.hid (HS1.out.trans (decide_eq_true hne))
              clear hne
              go_wp2_with fail
              go_quiet (fail)
              go_wp2_with fail
              exact ⟨⟨t + 1, by omega, by go_num, by rw [cnt_yes HAV.out HS2.out, ← HC.out]; go_num, ext_drewN hb _⟩, by simp [intOf]; omega⟩
        · have hke : args.take t = args := List.take_of_length_le (by omega)
          have HC2 := Lib.hid (show C = shB ps F k ⟨kind, A, args, cap, vn, ve, un, ue⟩ by rw [HC.out, hke]; unfold shB; rw [HFK.out]; rfl)
          have HBX3 := Lib.hid hbx5
          clear hke r5 hbx5
          go_wp2_with fail
          exact ⟨⟨k + 1, by omega, by go_num, by rw [shK_succ HX.out, ← HS.out, ← HC2.out], HBX3.out, HBB.out⟩, by simp [intOf]; omega⟩
    · have hke : k = bs.length := by omega
      subst hke
      have HB := HB0
      go_wp2_with fail
      refine bodyPost_ret (v := .tuple #[.int .i64 (shK ps bs F bs.length : Int), .int .i64 0]) (by simp [results, Tryd.results25, go_sem]) rfl ⟨by rw [HB.out, HF.out], hb⟩
end Go.Proofs.YtejnnljjmafjaaaDoor
