/- The program's marking, which calls itself. Condition: arguments that are blocks lie within the list. -/
import Derived.Test.YtaheedieingpiaaDoorDgG
namespace Go.Proofs.YtaheedieingpiaaDoor
set_option linter.unusedVariables false
set_option linter.unusedSimpArgs false
set_option linter.unusedSectionVars false
open Go.RowKit

theorem rowD_of {w : World} {base e g n : Nat} {xs : List Value} (h : w.ownsRow base e 1 (.slice (some ⟨g, 0, none⟩) n n) n xs) : RowD w g xs e := by
  obtain ⟨hl, h2⟩ := h
  rcases h2 with ⟨h', _⟩ | ⟨g', cap', cur, h', hb, hg, hnc, hcm, hcs, htake⟩
  · simp at h'
  · simp only [Value.slice.injEq, Option.some.injEq, Addr.mk.injEq, and_true, true_and] at h'
    obtain ⟨rfl, rfl⟩ := h'
    rw [List.take_of_length_le (by simp; omega)] at htake
    unfold RowD
    rw [hg, ← htake]
/-- All blocks but one are as they were. -/
structure Apart (g : Nat) (w w' : World) : Prop where
  os : w'.os = w.os
  tape : w'.tape = w.tape
  output : w'.output = w.output
  size : w.heap.size ≤ w'.heap.size
  block : ∀ k, k < w.heap.size → k ≠ g → w'.heap[k]? = w.heap[k]?
theorem Apart.refl (g : Nat) (w : World) : Apart g w w := ⟨rfl, rfl, rfl, Nat.le_refl _, fun _ _ _ => rfl⟩
theorem Apart.trans {g : Nat} {a b c : World} (h : Apart g a b) (k : Apart g b c) : Apart g a c :=
  ⟨k.os.trans h.os, k.tape.trans h.tape, k.output.trans h.output, Nat.le_trans h.size k.size, fun i hi hg => (k.block i (Nat.lt_of_lt_of_le hi h.size) hg).trans (h.block i hi hg)⟩
theorem Apart.of {g : Nat} {w w' : World} (h : Below w.heap.size w w') : Apart g w w' := ⟨h.os, h.tape, h.output, h.size, fun k hk _ => h.block k hk⟩
theorem Apart.below {g m : Nat} {w w' : World} (h : Apart g w w') (hg : m ≤ g) (hm : m ≤ w.heap.size) : Below m w w' :=
  ⟨h.os, h.tape, h.output, h.size, fun k hk => h.block k (Nat.lt_of_lt_of_le hk hm) (by omega)⟩
theorem Apart.set {g j : Nat} {w : World} (u : Value) : Apart g w (w.setCell ⟨g, j, none⟩ u) := by
  have h : Below g w (w.setCell ⟨g, j, none⟩ u) := (Below.refl g w).setCell (Nat.le_refl _) u
  refine ⟨h.os, h.tape, h.output, h.size, fun k hk hg => ?_⟩
  show (w.heap.modify g _)[k]? = w.heap[k]?
  rw [Array.getElem?_modify]
  simp [Ne.symm hg]
theorem RowD.apart {w w' : World} {g b t : Nat} {vs : List Value} (h : RowD w b vs t) (ha : Apart g w w') (hb : b ≠ g) : RowD w' b vs t := (ha.block b h.lt hb).trans h
theorem bools_set (l : List Bool) (i : Nat) (x : Bool) : bools (l.set i x) = (bools l).set i (.bool x) := by simp [bools, List.map_set]
theorem bools_get {l : List Bool} {i : Nat} (h : i < l.length) : (bools l)[i]? = some (.bool (isM l i)) := by simp [bools, isM, h]
theorem bools_len (l : List Bool) : (bools l).length = l.length := by simp [bools]
/-- What a call of the marking leaves in memory. -/
def MarkP (bs : List Bk) (over : Bool) (l : List Bool) (i g : Nat) (w : World) (e : Ending) (w' : World) : Prop :=
  e = .returned (.tuple #[]) ∧ ∃ l', MarkPost bs over l i l' ∧ RowD w' g (bools l') 4 ∧ Apart g w w'
def mkRel (bs : List Bk) (over : Bool) (l : List Bool) (i g : Nat) (w : World) (vs : List Value) (v : Value) (wr : World) : Prop :=
  ∃ k l', k ≤ (succs bs over i).length ∧ v = .int .i64 ((k : Nat) : Int) ∧ MarkMid bs over l i k l' ∧ RowD wr g (bools l') 4 ∧ RowD wr w.heap.size vs 26 ∧ Apart g w wr
theorem CellsAt.below2 {w w3 wr : World} {m g : Nat} {A : Option Addr} {xs : List Value} (h : CellsAt w3 m A xs) (h3 : Apart g w w3) (hr : Apart g w wr) (hm : m ≤ g) (hs : m ≤ w.heap.size) : CellsAt wr m A xs := fun hx => by
  obtain ⟨b, off, hA, hbm, hbs, hc⟩ := h hx
  have hb : b < w.heap.size := by omega
  refine ⟨b, off, hA, hbm, Nat.lt_of_lt_of_le hb hr.size, fun j u hu => ?_⟩
  rw [(hr.below hm hs).cell (p := ⟨b, off + j, none⟩) hbm, ← (h3.below hm hs).cell (p := ⟨b, off + j, none⟩) hbm]
  exact hc j u hu
theorem succs_len {bs : List Bk} {k : Nat} {x : Bk} {over : Bool} (h : bs[k]? = some x) (hl : x.args.length ≤ 1000000) : (succs bs over k).length ≤ 1000000 := by
  rw [succs_of h]
  split
  · simp
  · split
    · simp
    · exact hl
theorem MarkMid.un {bs : List Bk} {over : Bool} {l l' : List Bool} {i k : Nat} (h : MarkMid bs over l i k l') (hi : i < l.length) (hm : isM l i = false) : unM l' < unM l := by
  have h1 := unM_set hi hm
  have h2 := unM_mono (m := l.set i true) (m' := l') (by rw [h.len]; simp) (fun j hj => by
    rw [isM_set hi] at hj
    simp at hj
    rcases hj with hj | hj
    · exact h.mono j hj
    · subst hj; exact h.self)
  omega
set_option maxRecDepth 100000 in
set_option maxHeartbeats 4000000 in
theorem mark_any (d : Dg) (m g : Nat) (over : Bool) (hmg : m ≤ g) (hok : SuccOk d.bs) : ∀ (n : Nat) (l : List Bool) (i : Nat) (w : World), unM l < n → l.length = d.bs.length → i < d.bs.length → DgAt w m d → RowD w g (bools l) 4 →
    Calls Tryd.prog 33 #[d.val, .slice (some ⟨g, 0, none⟩) d.bs.length d.bs.length, .int .i64 (i : Int), .bool over] w (MarkP d.bs over l i g w) := by
  intro n
  induction n with
  | zero => intro l i w hun; exact absurd hun (Nat.not_lt_zero _)
  | succ n ih =>
    intro l i w hun hll hi hd hrow
    have hgl := hrow.lt
    have hil : i < l.length := by omega
    have h2 := hd.l2
    have f0 := hrow.free
    have f1 := hrow.cell i
    rw [bools_get hil] at f1
    have HR := Lib.hid hrow
    have HI := Lib.hid ih
    have HD := Lib.hid hd
    have HL := Lib.hid hll
    have HOK := Lib.hid hok
    have HUN := Lib.hid hun
    clear hrow ih hok hll hun
    obtain ⟨A1, ps, c1, A2, bs, c2, A3, os, c3⟩ := d
    dsimp only at h2 hi HI HOK
    simp only [Dg.val] at HI ⊢
    cases hm : isM l i with
    | true =>
      have HM := Lib.hid hm
      rw [hm] at f1
      clear hm hd
      go_enter Tryd.func33, Tryd.ntmps33
      go_wp2_with fail
      refine bodyPost_ret (v := .tuple #[]) (by simp [results, Tryd.results33, go_sem]) rfl ⟨rfl, l, MarkPost.same HM.out, HR.out.call (al_ _ _), Apart.of (al_ _ _)⟩
    | false =>
      have HM := Lib.hid hm
      rw [hm] at f1
      clear hm hd
      have r0 := RowD.new_ (w.setCell ⟨g, i, none⟩ (.bool true)) [.slice A1 ps.length c1, .slice A2 bs.length c2, .slice A3 os.length c3] 26
      rw [show (w.setCell ⟨g, i, none⟩ (.bool true)).heap.size = w.heap.size by simp] at r0
      have r1 := (HR.out.set_ i (.bool true)).call (al_ _ (.cells #[.slice A1 ps.length c1, .slice A2 bs.length c2, .slice A3 os.length c3] 26))
      rw [← bools_set] at r1
      have p0 : Apart g w ((w.setCell ⟨g, i, none⟩ (.bool true)).alloc (.cells #[.slice A1 ps.length c1, .slice A2 bs.length c2, .slice A3 os.length c3] 26)) := (Apart.set _).trans (Apart.of (al_ _ _))
      go_enter Tryd.func33, Tryd.ntmps33
      go_wp2_with fail
      obtain ⟨W, hW⟩ : ∃ W, W = ((w.setCell ⟨g, i, none⟩ (.bool true)).alloc (.cells #[.slice A1 ps.length c1, .slice A2 bs.length c2, .slice A3 os.length c3] 26)) := ⟨_, rfl⟩
      have hWs : w.heap.size < W.heap.size := by rw [hW]; simp
      rw [← hW]
      rw [← hW] at r0 r1 p0
      clear hW f0 f1
      go_at_call 45
      refine (before_any ⟨A1, ps, c1, A2, bs, c2, A3, os, c3⟩ i m W (by omega) (HD.out.below (p0.below hmg (by omega)) (Nat.le_refl _)) hi).mono ?_
      rintro e w3 ⟨A, c, rfl, hc, hb3⟩
      dsimp only at hc ⊢
      replace r0 := r0.call hb3
      replace r1 := r1.call hb3
      replace p0 := p0.trans (Apart.of hb3)
      have hs3 := hb3.size
      clear hb3
      have D3 := HD.out.below (p0.below hmg (by omega)) (Nat.le_refl _)
      obtain ⟨b, off, kind, KA, args, cap, vn, ve, un, ue, hA, hbm, hbs, hx, g0, g1, g2, g3, g4, g5, ha, hl⟩ := D3.blk hi
      dsimp only at hA hx
      subst hA
      have hln : (succs bs over i).length ≤ 1000000 := succs_len hx hl
      clear D3 hl g2 g3 g4 g5
      have b1 : w3.cell? ⟨w.heap.size, 1, none⟩ = some (.slice (some ⟨b, off, none⟩) bs.length c2) := r0.cell 1
      have z0 := r0.lt
      have hi' : (i : Int) < (bs.length : Int) := by omega
      have R0 := Lib.hid r0
      have R1 := Lib.hid r1
      have P0 := Lib.hid p0
      have HC := Lib.hid hc
      have HA := Lib.hid ha
      have HX := Lib.hid hx
      clear r0 r1 p0 hc ha hx
      cases over with
      | false =>
        go_wp2_with fail
        clear b1 z0 g0 g1 hi'
        go_loopw [39] (fun v wr => mkRel bs false l i g w [.slice A1 ps.length c1, .slice (some ⟨b, off, none⟩) bs.length c2, .slice A3 os.length c3] v wr) (fun v _ => (succs bs false i).length - (intOf v).toNat)
        case atStart => exact ⟨0, l.set i true, Nat.zero_le _, rfl, MarkMid.start hil, R1.out, R0.out, P0.out⟩
        case round =>
          as_aux_lemma =>
            obtain ⟨k, l', hk, rfl, hmid, hrow, hbox, hap⟩ := hrel
            have HM2 := Lib.hid hmid
            have HR2 := Lib.hid hrow
            have HB2 := Lib.hid hbox
            have HP2 := Lib.hid hap
            have b0 : wr.cell? ⟨w.heap.size, 0, none⟩ = some (.slice A1 ps.length c1) := hbox.cell 0
            have b1 : wr.cell? ⟨w.heap.size, 1, none⟩ = some (.slice (some ⟨b, off, none⟩) bs.length c2) := hbox.cell 1
            have b2 : wr.cell? ⟨w.heap.size, 2, none⟩ = some (.slice A3 os.length c3) := hbox.cell 2
            have z0 := hbox.lt
            clear hmid hrow hbox hap
            by_cases hlt : k < (succs bs false i).length
            · have hbw : Below m w wr := HP2.out.below hmg (by omega)
              obtain ⟨ab, ao, z, rfl, hab, hab2, hz, hzc⟩ := (CellsAt.below2 HC.out P0.out HP2.out hmg (by omega)).int_ hlt
              have hzb := HOK.out i hi z (succs_preds (List.mem_of_getElem? hz))
              obtain ⟨a, rfl⟩ := Int.eq_ofNat_of_zero_le hzb.1
              have ha : a < bs.length := by have := hzb.2; omega
              have HZ := Lib.hid hz
              have hun : unM l' < n := by have := HM2.out.un hil HM.out; have := HUN.out; omega
              have HU := Lib.hid hun
              have HLT := Lib.hid hlt
              clear hzb hz hun
              go_wp2_with fail
              go_at_call 33
              refine (HI.out l' a wr HU.out (HM2.out.len.trans HL.out) ha (HD.out.below hbw (Nat.le_refl _)) HR2.out).mono ?_
              rintro e w5 ⟨rfl, l2, hp, hrow', hap'⟩
              have HP5 := Lib.hid hp
              have HR5 := Lib.hid hrow'
              have HA5 := Lib.hid hap'
              clear hp hrow' hap' b0 b1 b2 hzc
              go_wp2_with fail
              exact ⟨⟨k + 1, l2, by omega, by go_num, HM2.out.step HZ.out HP5.out, HR5.out, HB2.out.apart HA5.out (by omega), HP2.out.trans HA5.out⟩, by simp [intOf]; omega⟩
            · go_wp2_with fail
              refine bodyPost_ret (v := .tuple #[]) (by simp [results, Tryd.results33, go_sem]) rfl ⟨rfl, l', HM2.out.done (by omega), HR2.out, HP2.out⟩
      | true =>
        by_cases hk2 : kind = 2
        · subst hk2
          have he : args = succs bs true i := by
            rw [succs_of HX.out]
            simp
          have HC := HA
          clear HX
          subst he
          go_wp2_with fail
          clear b1 z0 g0 g1 hi'
          go_loopw [39] (fun v wr => mkRel bs true l i g w [.slice A1 ps.length c1, .slice (some ⟨b, off, none⟩) bs.length c2, .slice A3 os.length c3] v wr) (fun v _ => (succs bs true i).length - (intOf v).toNat)
          case atStart => exact ⟨0, l.set i true, Nat.zero_le _, rfl, MarkMid.start hil, R1.out, R0.out, P0.out⟩
          case round =>
            as_aux_lemma =>
              obtain ⟨k, l', hk, rfl, hmid, hrow, hbox, hap⟩ := hrel
              have HM2 := Lib.hid hmid
              have HR2 := Lib.hid hrow
              have HB2 := Lib.hid hbox
              have HP2 := Lib.hid hap
              have b0 : wr.cell? ⟨w.heap.size, 0, none⟩ = some (.slice A1 ps.length c1) := hbox.cell 0
              have b1 : wr.cell? ⟨w.heap.size, 1, none⟩ = some (.slice (some ⟨b, off, none⟩) bs.length c2) := hbox.cell 1
              have b2 : wr.cell? ⟨w.heap.size, 2, none⟩ = some (.slice A3 os.length c3) := hbox.cell 2
              have z0 := hbox.lt
              clear hmid hrow hbox hap
              by_cases hlt : k < (succs bs true i).length
              · have hbw : Below m w wr := HP2.out.below hmg (by omega)
                obtain ⟨ab, ao, z, rfl, hab, hab2, hz, hzc⟩ := (CellsAt.below2 HC.out P0.out HP2.out hmg (by omega)).int_ hlt
                have hzb := HOK.out i hi z (succs_preds (List.mem_of_getElem? hz))
                obtain ⟨a, rfl⟩ := Int.eq_ofNat_of_zero_le hzb.1
                have ha : a < bs.length := by have := hzb.2; omega
                have HZ := Lib.hid hz
                have hun : unM l' < n := by have := HM2.out.un hil HM.out; have := HUN.out; omega
                have HU := Lib.hid hun
                have HLT := Lib.hid hlt
                clear hzb hz hun
                go_wp2_with fail
                go_at_call 33
                refine (HI.out l' a wr HU.out (HM2.out.len.trans HL.out) ha (HD.out.below hbw (Nat.le_refl _)) HR2.out).mono ?_
                rintro e w5 ⟨rfl, l2, hp, hrow', hap'⟩
                have HP5 := Lib.hid hp
                have HR5 := Lib.hid hrow'
                have HA5 := Lib.hid hap'
                clear hp hrow' hap' b0 b1 b2 hzc
                go_wp2_with fail
                exact ⟨⟨k + 1, l2, by omega, by go_num, HM2.out.step HZ.out HP5.out, HR5.out, HB2.out.apart HA5.out (by omega), HP2.out.trans HA5.out⟩, by simp [intOf]; omega⟩
              · go_wp2_with fail
                refine bodyPost_ret (v := .tuple #[]) (by simp [results, Tryd.results33, go_sem]) rfl ⟨rfl, l', HM2.out.done (by omega), HR2.out, HP2.out⟩
        · have he : succs bs false i = succs bs true i := by
            rw [succs_of HX.out, succs_of HX.out]
            simp [hk2]
          have HE := Lib.hid he
          have hkb : (kind == 2) = false := by simpa using hk2
          rw [he]
          have HC : Hid (CellsAt w3 m A (ints (succs bs true i))) := by rw [← he]; exact HC
          clear he hk2
          go_wp2_with fail
          clear b1 z0 g0 g1 hi'
          go_loopw [39] (fun v wr => mkRel bs true l i g w [.slice A1 ps.length c1, .slice (some ⟨b, off, none⟩) bs.length c2, .slice A3 os.length c3] v wr) (fun v _ => (succs bs true i).length - (intOf v).toNat)
          case atStart => exact ⟨0, l.set i true, Nat.zero_le _, rfl, MarkMid.start hil, R1.out, R0.out, P0.out⟩
          case round =>
            as_aux_lemma =>
              obtain ⟨k, l', hk, rfl, hmid, hrow, hbox, hap⟩ := hrel
              have HM2 := Lib.hid hmid
              have HR2 := Lib.hid hrow
              have HB2 := Lib.hid hbox
              have HP2 := Lib.hid hap
              have b0 : wr.cell? ⟨w.heap.size, 0, none⟩ = some (.slice A1 ps.length c1) := hbox.cell 0
              have b1 : wr.cell? ⟨w.heap.size, 1, none⟩ = some (.slice (some ⟨b, off, none⟩) bs.length c2) := hbox.cell 1
              have b2 : wr.cell? ⟨w.heap.size, 2, none⟩ = some (.slice A3 os.length c3) := hbox.cell 2
              have z0 := hbox.lt
              clear hmid hrow hbox hap
              by_cases hlt : k < (succs bs true i).length
              · have hbw : Below m w wr := HP2.out.below hmg (by omega)
                obtain ⟨ab, ao, z, rfl, hab, hab2, hz, hzc⟩ := (CellsAt.below2 HC.out P0.out HP2.out hmg (by omega)).int_ hlt
                have hzb := HOK.out i hi z (succs_preds (List.mem_of_getElem? hz))
                obtain ⟨a, rfl⟩ := Int.eq_ofNat_of_zero_le hzb.1
                have ha : a < bs.length := by have := hzb.2; omega
                have HZ := Lib.hid hz
                have hun : unM l' < n := by have := HM2.out.un hil HM.out; have := HUN.out; omega
                have HU := Lib.hid hun
                have HLT := Lib.hid hlt
                clear hzb hz hun
                go_wp2_with fail
                go_at_call 33
                refine (HI.out l' a wr HU.out (HM2.out.len.trans HL.out) ha (HD.out.below hbw (Nat.le_refl _)) HR2.out).mono ?_
                rintro e w5 ⟨rfl, l2, hp, hrow', hap'⟩
                have HP5 := Lib.hid hp
                have HR5 := Lib.hid hrow'
                have HA5 := Lib.hid hap'
                clear hp hrow' hap' b0 b1 b2 hzc
                go_wp2_with fail
                exact ⟨⟨k + 1, l2, by omega, by go_num, HM2.out.step HZ.out HP5.out, HR5.out, HB2.out.apart HA5.out (by omega), HP2.out.trans HA5.out⟩, by simp [intOf]; omega⟩
              · go_wp2_with fail
                refine bodyPost_ret (v := .tuple #[]) (by simp [results, Tryd.results33, go_sem]) rfl ⟨rfl, l', HM2.out.done (by omega), HR2.out, HP2.out⟩
end Go.Proofs.YtaheedieingpiaaDoor
