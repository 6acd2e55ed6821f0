/- What the proofs of this claim share, part 10. No conditions. -/
import Derived.Test.YtfooonellkgaeaaDoorKe9
import Derived.Test.YtfooonellkgaeaaDoorKe6
import Derived.Test.YtfooonellkgaeaaDoorKe5
set_option maxRecDepth 100000
set_option maxHeartbeats 8000000
set_option linter.unusedVariables false
set_option linter.unusedSimpArgs false
set_option linter.unusedSectionVars false
namespace Go.Proofs.YtfooonellkgaeaaDoor
open Go.RowKit
theorem rowD_of {w : World} {base e g n : Nat} {xs : List Value} (h : w.ownsRow base e 1 (.slice (some ⟨g, 0, none⟩) n n) n xs) : RowD w g xs e := by
  obtain ⟨hl, h2⟩ := h
  rcases h2 with ⟨h', _⟩ | ⟨g', cap', cur, h', hb, hg, hnc, hcm, hcs, htake⟩
  · simp at h'
  · simp only [Value.slice.injEq, Option.some.injEq, Addr.mk.injEq, and_true, true_and] at h'
    obtain ⟨rfl, rfl⟩ := h'
    rw [List.take_of_length_le (by simp; omega)] at htake
    unfold RowD
    rw [hg, ← htake]
structure Apart (g : Nat) (w w' : World) : Prop where
  os : w'.os = w.os
  tape : w'.tape = w.tape
  output : w'.output = w.output
  size : w.heap.size ≤ w'.heap.size
  block : ∀ k, k < w.heap.size → k ≠ g → w'.heap[k]? = w.heap[k]?
theorem Apart.trans {g : Nat} {a b c : World} (h : Apart g a b) (k : Apart g b c) : Apart g a c :=
  ⟨k.os.trans h.os, k.tape.trans h.tape, k.output.trans h.output, Nat.le_trans h.size k.size, fun i hi hg => (k.block i (Nat.lt_of_lt_of_le hi h.size) hg).trans (h.block i hi hg)⟩
theorem Apart.of {g : Nat} {w w' : World} (h : Below w.heap.size w w') : Apart g w w' := ⟨h.os, h.tape, h.output, h.size, fun k hk _ => h.block k hk⟩
theorem Apart.below {g m : Nat} {w w' : World} (h : Apart g w w') (hg : m ≤ g) (hm : m ≤ w.heap.size) : Below m w w' :=
  ⟨h.os, h.tape, h.output, h.size, fun k hk => h.block k (Nat.lt_of_lt_of_le hk hm) (by omega)⟩
theorem Apart.set {g j : Nat} {w : World} (u : Value) : Apart g w (w.setCell ⟨g, j, none⟩ u) := by
  have h : Below g w (w.setCell ⟨g, j, none⟩ u) := (Below.refl g w).setCell (Nat.le_refl _) u
  refine ⟨h.os, h.tape, h.output, h.size, fun k hk hg => ?_⟩
  show (w.heap.modify g _)[k]? = w.heap[k]?
  rw [Array.getElem?_modify]
  simp [Ne.symm hg]
theorem RowD.apart {w w' : World} {g b t : Nat} {vs : List Value} (h : RowD w b vs t) (ha : Apart g w w') (hb : b ≠ g) : RowD w' b vs t := (ha.block b h.lt hb).trans h
theorem bools_set (l : List Bool) (i : Nat) (x : Bool) : bools (l.set i x) = (bools l).set i (.bool x) := by simp [bools, List.map_set]
theorem bools_get {l : List Bool} {i : Nat} (h : i < l.length) : (bools l)[i]? = some (.bool (isM l i)) := by simp [bools, isM, h]
def MarkP (bs : List Bk) (over : Bool) (l : List Bool) (i g : Nat) (w : World) (e : Ending) (w' : World) : Prop :=
  e = .returned (.tuple #[]) ∧ ∃ l', MarkPost bs over l i l' ∧ RowD w' g (bools l') 4 ∧ Apart g w w'
def mkRel (bs : List Bk) (over : Bool) (l : List Bool) (i g : Nat) (w : World) (vs : List Value) (v : Value) (wr : World) : Prop :=
  ∃ k l', k ≤ (succs bs over i).length ∧ v = .int .i64 ((k : Nat) : Int) ∧ MarkMid bs over l i k l' ∧ RowD wr g (bools l') 4 ∧ RowD wr w.heap.size vs 41 ∧ Apart g w wr
theorem CellsAt.below2 {w w3 wr : World} {m g : Nat} {A : Option Addr} {xs : List Value} (h : CellsAt w3 m A xs) (h3 : Apart g w w3) (hr : Apart g w wr) (hm : m ≤ g) (hs : m ≤ w.heap.size) : CellsAt wr m A xs := fun hx => by
  obtain ⟨b, off, hA, hbm, hbs, hc⟩ := h hx
  have hb : b < w.heap.size := by omega
  refine ⟨b, off, hA, hbm, Nat.lt_of_lt_of_le hb hr.size, fun j u hu => ?_⟩
  rw [(hr.below hm hs).cell (p := ⟨b, off + j, none⟩) hbm, ← (h3.below hm hs).cell (p := ⟨b, off + j, none⟩) hbm]
  exact hc j u hu
theorem succs_len {bs : List Bk} {k : Nat} {x : Bk} {over : Bool} (h : bs[k]? = some x) (hl : x.args.length ≤ 1000000) : (succs bs over k).length ≤ 1000000 := by
  rw [succs_of h]
  split
  · simp
  · split
    · simp
    · exact hl
theorem MarkMid.un {bs : List Bk} {over : Bool} {l l' : List Bool} {i k : Nat} (h : MarkMid bs over l i k l') (hi : i < l.length) (hm : isM l i = false) : unM l' < unM l := by
  have h1 := unM_set hi hm
  have h2 := unM_mono (m := l.set i true) (m' := l') (by rw [h.len]; simp) (fun j hj => by
    rw [isM_set hi] at hj
    simp at hj
    rcases hj with hj | hj
    · exact h.mono j hj
    · subst hj; exact h.self)
  omega
theorem mark_any (d : Dg) (m g : Nat) (over : Bool) (hmg : m ≤ g) (hok : SuccOk d.bs) : ∀ (n : Nat) (l : List Bool) (i : Nat) (w : World), unM l < n → l.length = d.bs.length → i < d.bs.length → DgAt w m d → RowD w g (bools l) 4 →
    Calls Tryd.prog 68 #[d.val, .slice (some ⟨g, 0, none⟩) d.bs.length d.bs.length, .int .i64 (i : Int), .bool over] w (MarkP d.bs over l i g w) := by
  intro n
  induction n with
  | zero => intro l i w hun; exact absurd hun (Nat.not_lt_zero _)
  | succ n ih =>
    intro l i w hun hll hi hd hrow
    have hgl := hrow.lt
    have hil : i < l.length := by omega
    have h2 := hd.l2
    have f0 := hrow.free
    have f1 := hrow.cell i
    rw [bools_get hil] at f1
    have HR := Lib.hid hrow
    have HI := Lib.hid ih
    have HD := Lib.hid hd
    have HL := Lib.hid hll
    have HOK := Lib.hid hok
    have HUN := Lib.hid hun
    clear hrow ih hok hll hun
    obtain ⟨A1, ps, c1, A2, bs, c2, A3, os, c3⟩ := d
    dsimp only at h2 hi HI HOK
    simp only [Dg.val] at HI ⊢
    cases hm : isM l i with
    | true =>
      have HM := Lib.hid hm
      rw [hm] at f1
      clear hm hd
      go_enter Tryd.func68, Tryd.ntmps68
      go_wp2_with fail
      refine bodyPost_ret (v := .tuple #[]) (by simp [results, Tryd.results68, go_sem]) rfl ⟨rfl, l, MarkPost.same HM.out, HR.out.call (al_ _ _), Apart.of (al_ _ _)⟩
    | false =>
      have HM := Lib.hid hm
      rw [hm] at f1
      clear hm hd
      have r0 := RowD.new_ (w.setCell ⟨g, i, none⟩ (.bool true)) [.slice A1 ps.length c1, .slice A2 bs.length c2, .slice A3 os.length c3] 41
      rw [show (w.setCell ⟨g, i, none⟩ (.bool true)).heap.size = w.heap.size by simp] at r0
      have r1 := (HR.out.set_ i (.bool true)).call (al_ _ (.cells #[.slice A1 ps.length c1, .slice A2 bs.length c2, .slice A3 os.length c3] 41))
      rw [← bools_set] at r1
      have p0 : Apart g w ((w.setCell ⟨g, i, none⟩ (.bool true)).alloc (.cells #[.slice A1 ps.length c1, .slice A2 bs.length c2, .slice A3 os.length c3] 41)) := (Apart.set _).trans (Apart.of (al_ _ _))
      go_enter Tryd.func68, Tryd.ntmps68
      go_wp2_with fail
      obtain ⟨W, hW⟩ : ∃ W, W = ((w.setCell ⟨g, i, none⟩ (.bool true)).alloc (.cells #[.slice A1 ps.length c1, .slice A2 bs.length c2, .slice A3 os.length c3] 41)) := ⟨_, rfl⟩
      have hWs : w.heap.size < W.heap.size := by rw [hW]; simp
      rw [← hW]
      rw [← hW] at r0 r1 p0
      clear hW f0 f1
      go_at_call 92
      refine (before_any ⟨A1, ps, c1, A2, bs, c2, A3, os, c3⟩ i m W (by omega) (HD.out.below (p0.below hmg (by omega)) (Nat.le_refl _)) hi).mono ?_
      rintro e w3 ⟨A, c, rfl, hc, hb3⟩
      dsimp only at hc ⊢
      replace r0 := r0.call hb3
      replace r1 := r1.call hb3
      replace p0 := p0.trans (Apart.of hb3)
      have hs3 := hb3.size
      clear hb3
      have D3 := HD.out.below (p0.below hmg (by omega)) (Nat.le_refl _)
      obtain ⟨b, off, kind, KA, args, cap, vn, ve, un, ue, hA, hbm, hbs, hx, g0, g1, g2, g3, g4, g5, ha, hl⟩ := D3.blk hi
      dsimp only at hA hx
      subst hA
      have hln : (succs bs over i).length ≤ 1000000 := succs_len hx hl
      clear D3 hl g2 g3 g4 g5
      have b1 : w3.cell? ⟨w.heap.size, 1, none⟩ = some (.slice (some ⟨b, off, none⟩) bs.length c2) := r0.cell 1
      have z0 := r0.lt
      have hi' : (i : Int) < (bs.length : Int) := by omega
      have R0 := Lib.hid r0
      have R1 := Lib.hid r1
      have P0 := Lib.hid p0
      have HC := Lib.hid hc
      have HA := Lib.hid ha
      have HX := Lib.hid hx
      clear r0 r1 p0 hc ha hx
      cases over with
      | false =>
        go_wp2_with fail
        clear b1 z0 g0 g1 hi'
        go_loopw [39] (fun v wr => mkRel bs false l i g w [.slice A1 ps.length c1, .slice (some ⟨b, off, none⟩) bs.length c2, .slice A3 os.length c3] v wr) (fun v _ => (succs bs false i).length - (intOf v).toNat)
        case atStart => exact ⟨0, l.set i true, Nat.zero_le _, rfl, MarkMid.start hil, R1.out, R0.out, P0.out⟩
        case round =>
          as_aux_lemma =>
            obtain ⟨k, l', hk, rfl, hmid, hrow, hbox, hap⟩ := hrel
            have HM2 := Lib.hid hmid
            have HR2 := Lib.hid hrow
            have HB2 := Lib.hid hbox
            have HP2 := Lib.hid hap
            have b0 : wr.cell? ⟨w.heap.size, 0, none⟩ = some (.slice A1 ps.length c1) := hbox.cell 0
            have b1 : wr.cell? ⟨w.heap.size, 1, none⟩ = some (.slice (some ⟨b, off, none⟩) bs.length c2) := hbox.cell 1
            have b2 : wr.cell? ⟨w.heap.size, 2, none⟩ = some (.slice A3 os.length c3) := hbox.cell 2
            have z0 := hbox.lt
            clear hmid hrow hbox hap
            by_cases hlt : k < (succs bs false i).length
            · have hbw : Below m w wr := HP2.out.below hmg (by omega)
              obtain ⟨ab, ao, z, rfl, hab, hab2, hz, hzc⟩ := (CellsAt.below2 HC.out P0.out HP2.out hmg (by omega)).int_ hlt
              have hzb := HOK.out i hi z (succs_preds (List.mem_of_getElem? hz))
              obtain ⟨a, rfl⟩ := Int.eq_ofNat_of_zero_le hzb.1
              have ha : a < bs.length := by have := hzb.2; omega
              have HZ := Lib.hid hz
              have hun : unM l' < n := by have := HM2.out.un hil HM.out; have := HUN.out; omega
              have HU := Lib.hid hun
              have HLT := Lib.hid hlt
              clear hzb hz hun
              go_wp2_with fail
              go_at_call 68
              refine (HI.out l' a wr HU.out (HM2.out.len.trans HL.out) ha (HD.out.below hbw (Nat.le_refl _)) HR2.out).mono ?_
              rintro e w5 ⟨rfl, l2, hp, hrow', hap'⟩
              have HP5 := Lib.hid hp
              have HR5 := Lib.hid hrow'
              have HA5 := Lib.hid hap'
              clear hp hrow' hap' b0 b1 b2 hzc
              go_wp2_with fail
              exact ⟨⟨k + 1, l2, by omega, by go_num, HM2.out.step HZ.out HP5.out, HR5.out, HB2.out.apart HA5.out (by omega), HP2.out.trans HA5.out⟩, by simp [intOf]; omega⟩
            · go_wp2_with fail
              refine bodyPost_ret (v := .tuple #[]) (by simp [results, Tryd.results68, go_sem]) rfl ⟨rfl, l', HM2.out.done (by omega), HR2.out, HP2.out⟩
      | true =>
        by_cases hk2 : kind = 2
        · subst hk2
          have he : args = succs bs true i := by
            rw [succs_of HX.out]
            simp
          have HC := HA
          clear HX
          subst he
          go_wp2_with fail
          clear b1 z0 g0 g1 hi'
          go_loopw [39] (fun v wr => mkRel bs true l i g w [.slice A1 ps.length c1, .slice (some ⟨b, off, none⟩) bs.length c2, .slice A3 os.length c3] v wr) (fun v _ => (succs bs true i).length - (intOf v).toNat)
          case atStart => exact ⟨0, l.set i true, Nat.zero_le _, rfl, MarkMid.start hil, R1.out, R0.out, P0.out⟩
          case round =>
            as_aux_lemma =>
              obtain ⟨k, l', hk, rfl, hmid, hrow, hbox, hap⟩ := hrel
              have HM2 := Lib.hid hmid
              have HR2 := Lib.hid hrow
              have HB2 := Lib.hid hbox
              have HP2 := Lib.hid hap
              have b0 : wr.cell? ⟨w.heap.size, 0, none⟩ = some (.slice A1 ps.length c1) := hbox.cell 0
              have b1 : wr.cell? ⟨w.heap.size, 1, none⟩ = some (.slice (some ⟨b, off, none⟩) bs.length c2) := hbox.cell 1
              have b2 : wr.cell? ⟨w.heap.size, 2, none⟩ = some (.slice A3 os.length c3) := hbox.cell 2
              have z0 := hbox.lt
              clear hmid hrow hbox hap
              by_cases hlt : k < (succs bs true i).length
              · have hbw : Below m w wr := HP2.out.below hmg (by omega)
                obtain ⟨ab, ao, z, rfl, hab, hab2, hz, hzc⟩ := (CellsAt.below2 HC.out P0.out HP2.out hmg (by omega)).int_ hlt
                have hzb := HOK.out i hi z (succs_preds (List.mem_of_getElem? hz))
                obtain ⟨a, rfl⟩ := Int.eq_ofNat_of_zero_le hzb.1
                have ha : a < bs.length := by have := hzb.2; omega
                have HZ := Lib.hid hz
                have hun : unM l' < n := by have := HM2.out.un hil HM.out; have := HUN.out; omega
                have HU := Lib.hid hun
                have HLT := Lib.hid hlt
                clear hzb hz hun
                go_wp2_with fail
                go_at_call 68
                refine (HI.out l' a wr HU.out (HM2.out.len.trans HL.out) ha (HD.out.below hbw (Nat.le_refl _)) HR2.out).mono ?_
                rintro e w5 ⟨rfl, l2, hp, hrow', hap'⟩
                have HP5 := Lib.hid hp
                have HR5 := Lib.hid hrow'
                have HA5 := Lib.hid hap'
                clear hp hrow' hap' b0 b1 b2 hzc
                go_wp2_with fail
                exact ⟨⟨k + 1, l2, by omega, by go_num, HM2.out.step HZ.out HP5.out, HR5.out, HB2.out.apart HA5.out (by omega), HP2.out.trans HA5.out⟩, by simp [intOf]; omega⟩
              · go_wp2_with fail
                refine bodyPost_ret (v := .tuple #[]) (by simp [results, Tryd.results68, go_sem]) rfl ⟨rfl, l', HM2.out.done (by omega), HR2.out, HP2.out⟩
        · have he : succs bs false i = succs bs true i := by
            rw [succs_of HX.out, succs_of HX.out]
            simp [hk2]
          have HE := Lib.hid he
          have hkb : (kind == 2) = false := by simpa using hk2
          rw [he]
          have HC : Hid (CellsAt w3 m A (ints (succs bs true i))) := by rw [← he]; exact HC
          clear he hk2
          go_wp2_with fail
          clear b1 z0 g0 g1 hi'
          go_loopw [39] (fun v wr => mkRel bs true l i g w [.slice A1 ps.length c1, .slice (some ⟨b, off, none⟩) bs.length c2, .slice A3 os.length c3] v wr) (fun v _ => (succs bs true i).length - (intOf v).toNat)
          case atStart => exact ⟨0, l.set i true, Nat.zero_le _, rfl, MarkMid.start hil, R1.out, R0.out, P0.out⟩
          case round =>
            as_aux_lemma =>
              obtain ⟨k, l', hk, rfl, hmid, hrow, hbox, hap⟩ := hrel
              have HM2 := Lib.hid hmid
              have HR2 := Lib.hid hrow
              have HB2 := Lib.hid hbox
              have HP2 := Lib.hid hap
              have b0 : wr.cell? ⟨w.heap.size, 0, none⟩ = some (.slice A1 ps.length c1) := hbox.cell 0
              have b1 : wr.cell? ⟨w.heap.size, 1, none⟩ = some (.slice (some ⟨b, off, none⟩) bs.length c2) := hbox.cell 1
              have b2 : wr.cell? ⟨w.heap.size, 2, none⟩ = some (.slice A3 os.length c3) := hbox.cell 2
              have z0 := hbox.lt
              clear hmid hrow hbox hap
              by_cases hlt : k < (succs bs true i).length
              · have hbw : Below m w wr := HP2.out.below hmg (by omega)
                obtain ⟨ab, ao, z, rfl, hab, hab2, hz, hzc⟩ := (CellsAt.below2 HC.out P0.out HP2.out hmg (by omega)).int_ hlt
                have hzb := HOK.out i hi z (succs_preds (List.mem_of_getElem? hz))
                obtain ⟨a, rfl⟩ := Int.eq_ofNat_of_zero_le hzb.1
                have ha : a < bs.length := by have := hzb.2; omega
                have HZ := Lib.hid hz
                have hun : unM l' < n := by have := HM2.out.un hil HM.out; have := HUN.out; omega
                have HU := Lib.hid hun
                have HLT := Lib.hid hlt
                clear hzb hz hun
                go_wp2_with fail
                go_at_call 68
                refine (HI.out l' a wr HU.out (HM2.out.len.trans HL.out) ha (HD.out.below hbw (Nat.le_refl _)) HR2.out).mono ?_
                rintro e w5 ⟨rfl, l2, hp, hrow', hap'⟩
                have HP5 := Lib.hid hp
                have HR5 := Lib.hid hrow'
                have HA5 := Lib.hid hap'
                clear hp hrow' hap' b0 b1 b2 hzc
                go_wp2_with fail
                exact ⟨⟨k + 1, l2, by omega, by go_num, HM2.out.step HZ.out HP5.out, HR5.out, HB2.out.apart HA5.out (by omega), HP2.out.trans HA5.out⟩, by simp [intOf]; omega⟩
              · go_wp2_with fail
                refine bodyPost_ret (v := .tuple #[]) (by simp [results, Tryd.results68, go_sem]) rfl ⟨rfl, l', HM2.out.done (by omega), HR2.out, HP2.out⟩
end Go.Proofs.YtfooonellkgaeaaDoor
namespace Go.Proofs.YtfooonellkgaeaaDoor
open Go.RowKit
def foldI (bs : List Bk) (over : Bool) (m : List Bool) (i : Nat) : List Bool := (List.range i).foldl (pass1 bs over) m
def setsT (xs : List Int) (c : List Bool) (t : Nat) : List Bool := (xs.take t).foldl (fun m a => m.set a.toNat true) c
def NeedP (bs : List Bk) (over : Bool) (l : List Bool) (g : Nat) (w : World) (e : Ending) (w' : World) : Prop :=
  e = .returned (.slice (some ⟨g, 0, none⟩) bs.length bs.length) ∧ RowD w' g (bools (passes bs over bs.length l)) 4 ∧ Apart g w w'
def nd1 (bs : List Bk) (over : Bool) (l : List Bool) (g : Nat) (w : World) (vs : List Value) (v : Value) (wr : World) : Prop :=
  ∃ k : Nat, k ≤ bs.length ∧ v = .int .i64 (k : Int) ∧ RowD wr g (bools (passes bs over k l)) 4 ∧ RowD wr w.heap.size vs 41 ∧ Apart g w wr
def nd2 (bs : List Bk) (over : Bool) (l : List Bool) (g : Nat) (w : World) (vs : List Value) (v : Value) (wr : World) : Prop :=
  ∃ i : Nat, i ≤ bs.length ∧ v = .int .i64 (i : Int) ∧ RowD wr g (bools (foldI bs over l i)) 4 ∧ RowD wr w.heap.size vs 41 ∧ Apart g w wr
def nd3 (xs : List Int) (c : List Bool) (g : Nat) (w : World) (vs : List Value) (v : Value) (wr : World) : Prop :=
  ∃ t : Nat, t ≤ xs.length ∧ v = .int .i64 (t : Int) ∧ RowD wr g (bools (setsT xs c t)) 4 ∧ RowD wr w.heap.size vs 41 ∧ Apart g w wr
end Go.Proofs.YtfooonellkgaeaaDoor
namespace Go.Proofs.YtfooonellkgaeaaDoor
open Go.RowKit
theorem OwnI.call {w w' : World} {base : Nat} {v : Value} {xs : List Int} (h : OwnI w base v xs) (hb : Below w.heap.size w w') : OwnI w' base v xs := h.below hb (fun g hg => (World.ownsRow.lt h g hg).2)
theorem natI_len (l : List Nat) : (natI l).length = l.length := by simp [natI]
theorem natI_app (l : List Nat) (i : Nat) : natI (l ++ [i]) = natI l ++ [(i : Int)] := by simp [natI]
theorem rdy_def (bs : List Bk) (out : List Nat) (i : Nat) : rdy bs out i = (!doneB bs out i && (preds bs i).all fun a => doneB bs out a.toNat) := rfl
def NoneB (bs : List Bk) (out : List Nat) (k : Nat) : Prop := ∀ j, j < k → rdy bs out j = false
structure OrdOk (bs : List Bk) (out : List Nat) : Prop where
  ok : OutOk bs out
  more : ordN bs bs.length out = ordM bs
theorem OrdOk.nil (bs : List Bk) : OrdOk bs [] := ⟨OutOk.nil bs, rfl⟩
theorem OrdOk.push {bs : List Bk} {out : List Nat} {i : Nat} (h : OrdOk bs out) (hn : nxt bs out = some i) : OrdOk bs (out ++ [i]) := by
  refine ⟨h.ok.push hn, ?_⟩
  have h1 := ordN_more bs.length (bs.length + 1) h.ok (by have := nonDel_le bs; omega) (by omega)
  rw [← h.more, h1]
  show _ = match nxt bs out with | none => out | some i => ordN bs bs.length (out ++ [i])
  rw [hn]
theorem OrdOk.done {bs : List Bk} {out : List Nat} (h : OrdOk bs out) (hn : nxt bs out = none) : ordM bs = out := by
  rw [← h.more]
  cases hb : bs.length with
  | zero => rfl
  | succ f =>
    show (match nxt bs out with | none => out | some i => ordN bs f (out ++ [i])) = out
    rw [hn]
theorem OrdOk.full {bs : List Bk} {out : List Nat} (h : OrdOk bs out) (hf : nonDel bs ≤ out.length) : ordM bs = out := by
  refine h.done ?_
  cases hn : nxt bs out with
  | none => rfl
  | some i =>
    have := (h.ok.push hn).le
    simp at this
    omega
theorem OrdOk.lt {bs : List Bk} {out : List Nat} {i : Nat} (h : OrdOk bs out) (hn : nxt bs out = some i) : out.length < nonDel bs := by
  have := (h.ok.push hn).le
  simp at this
  omega
def allT (bs : List Bk) (out : List Nat) (xs : List Int) (t : Nat) : Bool := (xs.take t).all fun a => doneB bs out a.toNat
theorem allT_succ {bs : List Bk} {out : List Nat} {xs : List Int} {t : Nat} {a : Int} (h : xs[t]? = some a) : allT bs out xs (t + 1) = (allT bs out xs t && doneB bs out a.toNat) := by
  unfold allT
  rw [List.take_add_one, h, List.all_append]
  simp
theorem allT_all {bs : List Bk} {out : List Nat} {xs : List Int} {t : Nat} (h : xs.length ≤ t) : allT bs out xs t = xs.all fun a => doneB bs out a.toNat := by unfold allT; rw [List.take_of_length_le h]
def lenOf : Value → Nat
  | .slice _ n _ => n
  | _ => 0
def ro1 (bs : List Bk) (w : World) (vs : List Value) (v : Value) (wr : World) : Prop :=
  ∃ outN, OwnI wr (w.heap.size + 1) v (natI outN) ∧ OrdOk bs outN ∧ RowD wr w.heap.size vs 41 ∧ Below w.heap.size w wr
def ro2 (bs : List Bk) (outN : List Nat) (w : World) (vs : List Value) (v p i : Value) (wr : World) : Prop :=
  ∃ k : Nat, k ≤ bs.length ∧ i = .int .i64 (k : Int) ∧ p = .int .i64 (-1) ∧ NoneB bs outN k ∧ OwnI wr (w.heap.size + 1) v (natI outN) ∧ RowD wr w.heap.size vs 41 ∧ Below w.heap.size w wr
def ro3 (bs : List Bk) (outN : List Nat) (xs : List Int) (w : World) (vs : List Value) (v r i : Value) (wr : World) : Prop :=
  ∃ t : Nat, t ≤ xs.length ∧ i = .int .i64 (t : Int) ∧ r = .bool (allT bs outN xs t) ∧ OwnI wr (w.heap.size + 1) v (natI outN) ∧ RowD wr w.heap.size vs 41 ∧ Below w.heap.size w wr
theorem info_bool : (Tryd.prog.info? 4).map (fun i => (i.zero, i.size, i.bytes)) = some (some (.bool false), 1, 1) := by kernel_rfl
theorem under_bools : Tryd.prog.underlying 102 = some (.slice 4) := by kernel_rfl
def ordErr (bs : List Bk) : Int := if (ordM bs).length = nonDel bs then 0 else 24
def ordL (bs : List Bk) : List Int := if ordErr bs = 0 then natI (ordM bs) else []
def OrdP (bs : List Bk) (w : World) (e : Ending) (w' : World) : Prop := ∃ v, e = .returned (.tuple #[v, errV (ordErr bs)]) ∧ OwnI w' w.heap.size v (ordL bs) ∧ Below w.heap.size w w'
theorem made_bools (n : Nat) : (madeCells (Value.bool false).cells (n * 1)).toList = bools (List.replicate n false) := by
  simp only [Value.cells, Nat.mul_one, bools, List.map_replicate]
  exact toList_madeCells_one _ _
theorem size_al1 (w : World) (o : Obj) : (w.alloc o).heap.size = w.heap.size + 1 := by simp
theorem OwnI.setLow {w : World} {base g : Nat} {v : Value} {xs : List Int} (h : OwnI w base v xs) (hg : g < base) (j : Nat) (u : Value) : OwnI (w.setCell ⟨g, j, none⟩ u) base v xs := by
  refine ⟨h.1, ?_⟩
  rcases h.2 with hn | ⟨g', cap, cur, he, hbg, hh, rest⟩
  · exact .inl hn
  · refine .inr ⟨g', cap, cur, he, hbg, ?_, rest⟩
    rw [heap_setCell_other _ _ _ _ (by show g' ≠ g; omega)]
    exact hh
def doneK (bs : List Bk) (k : Nat) : List Bool := (List.range bs.length).map fun j => decide (j < k) && isDel bs j
def doneL (bs : List Bk) (out : List Nat) : List Bool := (List.range bs.length).map (doneB bs out)
theorem doneK_len (bs : List Bk) (k : Nat) : (doneK bs k).length = bs.length := by simp [doneK]
theorem doneL_len (bs : List Bk) (out : List Nat) : (doneL bs out).length = bs.length := by simp [doneL]
theorem doneL_get {bs : List Bk} {out : List Nat} {j : Nat} (h : j < bs.length) : isM (doneL bs out) j = doneB bs out j := by simp [isM, doneL, h]
theorem doneK_zero (bs : List Bk) : doneK bs 0 = List.replicate bs.length false := by
  refine List.ext_getElem (by simp [doneK]) fun i h1 h2 => ?_
  simp [doneK]
theorem doneK_all (bs : List Bk) : doneK bs bs.length = doneL bs [] := by
  refine List.ext_getElem (by simp [doneK, doneL]) fun i h1 h2 => ?_
  have : i < bs.length := by rw [doneK_len] at h1; exact h1
  simp [doneK, doneL, doneB, isDel, this]
theorem doneK_hit {bs : List Bk} {k : Nat} (hd : isDel bs k = true) : (doneK bs k).set k true = doneK bs (k + 1) := by
  refine List.ext_getElem (by simp [doneK]) fun i h1 h2 => ?_
  rw [List.getElem_set]
  simp only [doneK, List.getElem_map, List.getElem_range]
  by_cases h : k = i
  · subst h; simp [hd]
  · rw [if_neg h]
    congr 1
    exact decide_eq_decide.2 (by omega)
theorem doneK_no {bs : List Bk} {k : Nat} (hd : isDel bs k = false) : doneK bs (k + 1) = doneK bs k := by
  refine List.ext_getElem (by simp [doneK]) fun i h1 h2 => ?_
  simp only [doneK, List.getElem_map, List.getElem_range]
  by_cases h : i = k
  · subst h; simp [hd]
  · congr 1
    exact decide_eq_decide.2 (by omega)
theorem doneL_push (bs : List Bk) (out : List Nat) (p : Nat) : doneL bs (out ++ [p]) = (doneL bs out).set p true := by
  refine List.ext_getElem (by simp [doneL]) fun i h1 h2 => ?_
  rw [List.getElem_set]
  simp only [doneL, List.getElem_map, List.getElem_range, doneB]
  by_cases h : p = i
  · subst h; simp
  · have h2 : ¬ i = p := fun e => h e.symm
    simp [h, h2]
def notDel (bs : List Bk) (i : Nat) : Bool := kindAt bs i != 2
theorem notDel_all (bs : List Bk) : (fl (notDel bs) bs.length).length = nonDel bs := rfl
def pickI (bs : List Bk) (out : List Nat) (k : Nat) : Int := match (List.range k).find? (rdy bs out) with | none => -1 | some p => (p : Int)
theorem pickI_hit {bs : List Bk} {out : List Nat} {k : Nat} (hp : pickI bs out k < 0) (hr : rdy bs out k = true) : pickI bs out (k + 1) = (k : Int) := by
  unfold pickI at hp ⊢
  rw [List.range_succ, List.find?_append]
  cases h : (List.range k).find? (rdy bs out) with
  | none => simp [hr]
  | some p => rw [h] at hp; simp at hp; omega
theorem pickI_no {bs : List Bk} {out : List Nat} {k : Nat} (h : 0 ≤ pickI bs out k ∨ rdy bs out k = false) : pickI bs out (k + 1) = pickI bs out k := by
  unfold pickI at h ⊢
  rw [List.range_succ, List.find?_append]
  cases hf : (List.range k).find? (rdy bs out) with
  | none =>
    rw [hf] at h
    rcases h with h | h
    · simp at h
    · simp [h]
  | some p => simp
theorem pickI_range (bs : List Bk) (out : List Nat) (k : Nat) : -1 ≤ pickI bs out k ∧ pickI bs out k < (k : Int) := by
  unfold pickI
  cases hf : (List.range k).find? (rdy bs out) with
  | none => dsimp only; omega
  | some p =>
    have := List.mem_of_find?_eq_some hf
    simp at this
    dsimp only
    omega
theorem pick_none {bs : List Bk} {out : List Nat} (h : nxt bs out = none) : pickI bs out bs.length = -1 := by unfold pickI; unfold nxt at h; rw [h]
theorem pick_some {bs : List Bk} {out : List Nat} {p : Nat} (h : nxt bs out = some p) : pickI bs out bs.length = (p : Int) := by unfold pickI; unfold nxt at h; rw [h]
theorem rdy_succs {bs : List Bk} {out : List Nat} {k : Nat} (hd : doneB bs out k = false) : rdy bs out k = (succs bs false k).all fun a => doneB bs out a.toNat := by
  rw [rdy_def, hd]
  have hk : kindAt bs k ≠ 2 := by
    unfold doneB at hd
    simp at hd
    exact hd.1
  unfold succs
  rw [if_neg (fun h => hk h.1)]
  simp
def po1 (bs : List Bk) (w : World) (vs : List Value) (L i : Value) (wr : World) : Prop :=
  ∃ k : Nat, k ≤ bs.length ∧ i = .int .i64 (k : Int) ∧ L = .int .i64 ((fl (notDel bs) k).length : Int) ∧ RowD wr (w.heap.size + 1) (bools (doneK bs k)) 4 ∧ RowD wr w.heap.size vs 41 ∧ Below w.heap.size w wr
def po2 (bs : List Bk) (w : World) (vs : List Value) (v L : Value) (wr : World) : Prop :=
  ∃ (outN : List Nat) (l : Nat), L = .int .i64 (l : Int) ∧ l + outN.length = nonDel bs ∧ OrdOk bs outN ∧ OwnI wr (w.heap.size + 2) v (natI outN) ∧ RowD wr (w.heap.size + 1) (bools (doneL bs outN)) 4 ∧ RowD wr w.heap.size vs 41 ∧ Below w.heap.size w wr
def po3 (bs : List Bk) (outN : List Nat) (w : World) (vs : List Value) (v p i : Value) (wr : World) : Prop :=
  ∃ k : Nat, k ≤ bs.length ∧ i = .int .i64 (k : Int) ∧ p = .int .i64 (pickI bs outN k) ∧ OwnI wr (w.heap.size + 2) v (natI outN) ∧ RowD wr (w.heap.size + 1) (bools (doneL bs outN)) 4 ∧ RowD wr w.heap.size vs 41 ∧ Below w.heap.size w wr
def po4F (w w5 : World) (xs : List Int) (r i : Value) (wr : World) : Prop := ∃ t : Nat, t ≤ xs.length ∧ i = .int .i64 (t : Int) ∧ r = .bool false ∧ wr = w5
def po4T (bs : List Bk) (outN : List Nat) (w w5 : World) (xs : List Int) (r i : Value) (wr : World) : Prop := ∃ t : Nat, t ≤ xs.length ∧ i = .int .i64 (t : Int) ∧ r = .bool (allT bs outN xs t) ∧ wr = w5
theorem order_any (d : Dg) (m : Nat) (w : World) (hm : m ≤ w.heap.size) (hd : DgAt w m d) (hok : SuccOk d.bs) :
    Calls Tryd.prog 53 #[d.val] w (OrdP d.bs w) := by
  have h2 := hd.l2
  have HD := Lib.hid hd
  have HOK := Lib.hid hok
  clear hok hd
  obtain ⟨A1, ps, c1, A2, bs, c2, A3, os, c3⟩ := d
  dsimp only at h2 HOK
  simp only [Dg.val]
  have r0 := RowD.new_ w [.slice A1 ps.length c1, .slice A2 bs.length c2, .slice A3 os.length c3] 41
  have hnd := nonDel_le bs
  obtain ⟨i0, hi, hz0, hz1, hz2⟩ := info_parts info_bool
  go_enter Tryd.func53, Tryd.ntmps53
  go_wp2_with (with_reducible refine wpList_make_full _ rfl (.tmp 16) (.tmp 16) 102 rfl (w.heap.size + 1) 4 i0 (.bool false) 1 under_bools hi hz0 hz1 .i64 .i64 bs.length bs.length bs.length rfl rfl rfl rfl (by rw [hz2]; omega) (by unfold maxLen; omega) (by simp) ?_; intro w2 hown hg; have hst : Below (w.heap.size + 1) (w.alloc (.cells #[.slice A1 ps.length c1, .slice A2 bs.length c2, .slice A3 os.length c3] 41)) w2 := (Below.refl _ _).grown hg (by simp) (fun k h => by simp at h); obtain ⟨hc, hf, hs, hz'⟩ := ext_at (m := w.heap.size + 1) hst (by simp) (by simp))
  have hrow := rowD_of hown
  rw [made_bools, ← doneK_zero] at hrow
  simp only [size_al1] at hrow
  replace r0 := r0.below hst (by omega)
  have hb2 : Below w.heap.size w w2 := (al_ _ _).trans (hst.mono (by omega))
  clear hown hc hf hs hz' hg hst
  go_loopw [6, 21] (fun L i wr => po1 bs w [.slice A1 ps.length c1, .slice A2 bs.length c2, .slice A3 os.length c3] L i wr) (fun _ i _ => bs.length - (intOf i).toNat)
  case atStart => exact ⟨0, Nat.zero_le _, rfl, rfl, hrow, r0, hb2⟩
  case round =>
    as_aux_lemma =>
      clear hrow r0 hb2
      obtain ⟨k, hk, rfl, rfl, hrow, hbox, hb⟩ := hrel
      have HR := Lib.hid hrow
      have HB := Lib.hid hbox
      have f0 := hrow.free
      have z1 := hrow.lt
      have z0 := hbox.lt
      clear hrow hbox
      by_cases hkl : k < bs.length
      · obtain ⟨b, off, kind, KA, args, cap, vn, ve, un, ue, hA, hbm, hbs, hx, g0, g1, g2, g3, g4, g5, ha, hl⟩ := (HD.out.below hb hm).blk hkl
        dsimp only at hA hx
        subst hA
        have HX := Lib.hid (kind_of hx)
        dsimp only at HX
        have fc : wr.cell? ⟨w.heap.size + 1, k, none⟩ = some (.bool (isM (doneK bs k) k)) := by
          rw [HR.out.cell, bools_get (by rw [doneK_len]; exact hkl)]
        have hki : (k : Int) < (bs.length : Int) := by omega
        have hfl := fl_le (notDel bs) k
        clear hx ha hl
        by_cases hk2 : kind = 2
        · subst hk2
          have HT : Hid (isDel bs k = true) := by unfold isDel; rw [HX.out]; exact Lib.hid rfl
          have HT2 : Hid (notDel bs k = false) := by unfold notDel; rw [HX.out]; exact Lib.hid rfl
          go_wp2_with fail
          exact ⟨⟨k + 1, by omega, by go_num, by rw [fl_no HT2.out], by rw [← doneK_hit HT.out, bools_set]; exact (HR.out.set_ k (.bool true)).call (al_ _ _), (HB.out.other_ (by omega) k (.bool true)).call (al_ _ _), ext_alloc (ext_set hb (by simp) _) _⟩, by simp [intOf]; omega⟩
        · have hkb : (kind == 2) = false := by simpa using hk2
          have HT : Hid (isDel bs k = false) := by unfold isDel; rw [HX.out]; exact Lib.hid hkb
          have HT2 : Hid (notDel bs k = true) := by unfold notDel; rw [HX.out]; exact Lib.hid (by simpa using hk2)
          clear hk2
          go_wp2_with fail
          exact ⟨⟨k + 1, by omega, by go_num, by rw [fl_hit HT2.out, List.length_append]; go_num, by rw [doneK_no HT.out]; exact HR.out.call (al_ _ _), HB.out.call (al_ _ _), ext_alloc hb _⟩, by simp [intOf]; omega⟩
      · have hkn : k = bs.length := by omega
        subst hkn
        clear hk hkl f0
        rw [notDel_all]
        rw [doneK_all] at HR
        go_wp2_with fail
        obtain ⟨w3, hw3⟩ : ∃ w3, w3 = wr := ⟨_, rfl⟩
        rw [← hw3] at HR HB hb
        rw [← hw3]
        clear hw3 z0 z1
        go_loopw [4, 6] (fun v L wr => po2 bs w [.slice A1 ps.length c1, .slice A2 bs.length c2, .slice A3 os.length c3] v L wr) (fun _ L _ => (intOf L).toNat)
        case atStart => exact ⟨[], nonDel bs, rfl, rfl, OrdOk.nil _, OwnI.nil_ _ _, HR.out, HB.out, hb⟩
        case round =>
          as_aux_lemma =>
            clear HR HB hb
            obtain ⟨outN, l, rfl, hlen, hord, hown, hrow, hbox, hb⟩ := hrel
            have HLN := Lib.hid hlen
            have hl1 : (l : Int) ≤ 1000000 := by omega
            obtain ⟨A, c, rfl, hAc, _⟩ := hown.view
            have HO := Lib.hid hown
            have HR := Lib.hid hrow
            have HB := Lib.hid hbox
            have HORD := Lib.hid hord
            have b1 : wr.cell? ⟨w.heap.size, 1, none⟩ = some (.slice A2 bs.length c2) := hbox.cell 1
            have z1 := hrow.lt
            have z0 := hbox.lt
            clear hown hrow hbox hord hlen hAc
            by_cases hl0 : l = 0
            · have hfull := HORD.out.full (by have := HLN.out; omega)
              have HF := Lib.hid hfull
              subst hl0
              clear hfull
              go_wp2_with fail
              have he : ordErr bs = 0 := by unfold ordErr; rw [HF.out, if_pos (by have := HLN.out; omega)]
              have hv : ordL bs = natI outN := by unfold ordL; rw [if_pos he, HF.out]
              refine bodyPost_ret (v := .tuple #[.slice A (natI outN).length c, .nilIface]) (by simp [results, Tryd.results53, go_sem]) rfl ⟨_, by rw [he]; rfl, by rw [hv]; exact HO.out.base_ (by omega), hb⟩
            · obtain ⟨l', rfl⟩ : ∃ l', l = l' + 1 := ⟨l - 1, by omega⟩
              have hl2 : (l' : Int) ≤ 999999 := by omega
              clear hl0 hl1
              have hl3 : (0 : Int) < ((l' + 1 : Nat) : Int) := by omega
              go_wp2_with fail
              clear b1 z0 z1 hl3
              obtain ⟨w4, hw4⟩ : ∃ w4, w4 = wr := ⟨_, rfl⟩
              rw [← hw4] at HO HR HB hb
              rw [← hw4]
              clear hw4
              go_loopw [9, 42] (fun p i wr => po3 bs outN w [.slice A1 ps.length c1, .slice A2 bs.length c2, .slice A3 os.length c3] (.slice A (natI outN).length c) p i wr) (fun _ i _ => bs.length - (intOf i).toNat)
              case atStart => exact ⟨0, Nat.zero_le _, rfl, rfl, HO.out, HR.out, HB.out, hb⟩
              case round =>
                as_aux_lemma =>
                  clear HR HB hb HO
                  obtain ⟨k, hk, rfl, hp, hown, hrow, hbox, hb⟩ := hrel
                  have HO := Lib.hid hown
                  have HR := Lib.hid hrow
                  have HB := Lib.hid hbox
                  have b0 : wr.cell? ⟨w.heap.size, 0, none⟩ = some (.slice A1 ps.length c1) := hbox.cell 0
                  have b1 : wr.cell? ⟨w.heap.size, 1, none⟩ = some (.slice A2 bs.length c2) := hbox.cell 1
                  have b2 : wr.cell? ⟨w.heap.size, 2, none⟩ = some (.slice A3 os.length c3) := hbox.cell 2
                  have f0 := hrow.free
                  have z1 := hrow.lt
                  have z0 := hbox.lt
                  clear hown hrow hbox
                  by_cases hkl : k < bs.length
                  · subst hp
                    have fc : wr.cell? ⟨w.heap.size + 1, k, none⟩ = some (.bool (doneB bs outN k)) := by
                      rw [HR.out.cell, bools_get (by rw [doneL_len]; exact hkl), doneL_get hkl]
                    have hki : (k : Int) < (bs.length : Int) := by omega
                    have hpr := pickI_range bs outN k
                    obtain ⟨P, hP⟩ : ∃ P, P = pickI bs outN k := ⟨_, rfl⟩
                    rw [← hP] at hpr
                    rw [← hP]
                    have HP := Lib.hid hP
                    clear hP
                    have hls : (succs bs false k).length ≤ 1000000 := by
                      obtain ⟨_, _, _, _, _, _, _, _, _, _, _, _, _, hx, _, _, _, _, _, _, _, hl⟩ := HD.out.blk hkl
                      exact succs_len hx hl
                    have HLS := Lib.hid hls
                    clear hls
                    cases hdn : doneB bs outN k with
                    | true =>
                      rw [hdn] at fc
                      have HNO := Lib.hid (pickI_no (bs := bs) (out := outN) (k := k) (.inr (by rw [rdy_def, hdn]; rfl)))
                      clear hdn
                      go_wp2_with fail
                      go_at_call 92
                      refine (before_any ⟨A1, ps, c1, A2, bs, c2, A3, os, c3⟩ k m wr (by have := hb.size; omega) (HD.out.below hb hm) hkl).mono ?_
                      rintro e w5 ⟨X, cx, rfl, hcx, hb5⟩
                      dsimp only at hcx ⊢
                      have hln : (succs bs false k).length ≤ 1000000 := HLS.out
                      have O5 := Lib.hid (HO.out.call hb5)
                      have R5 := Lib.hid (HR.out.call hb5)
                      have B5 := Lib.hid (HB.out.call hb5)
                      have N5 := Lib.hid (hb.trans (hb5.mono hb.size))
                      have HCX := Lib.hid hcx
                      clear hb5 hb b0 b1 b2 f0 fc z0 z1 hcx
                      go_wp2_with fail
                      go_loopw [11, 58] (fun r i wr => po4F w w5 (succs bs false k) r i wr) (fun _ i _ => (succs bs false k).length - (intOf i).toNat)
                      case atStart => exact ⟨0, Nat.zero_le _, rfl, rfl, rfl⟩
                      case round =>
                        as_aux_lemma =>
                          obtain ⟨t, ht, rfl, rfl, rfl⟩ := hrel
                          by_cases hlt : t < (succs bs false k).length
                          · obtain ⟨ab, ao, z, rfl, hab, hab2, hz, hzc⟩ := HCX.out.int_ hlt
                            clear hz
                            go_wp2_with fail
                            exact ⟨⟨t + 1, by omega, by go_num, rfl, rfl⟩, by simp [intOf]; omega⟩
                          · go_wp2_with fail
                            first
                              | exact ⟨⟨k + 1, by omega, by go_num, by rw [HNO.out, HP.out], O5.out, R5.out, B5.out, N5.out⟩, by simp [intOf]; omega⟩
                              | (refine ⟨?_, by simp [intOf]; omega⟩
                                 repeat apply Exists.intro
                                 exact ⟨⟨k + 1, by omega, by go_num, by rw [HNO.out, HP.out], O5.out, R5.out, B5.out, N5.out⟩, rfl⟩)
                    | false =>
                      rw [hdn] at fc
                      by_cases hpn : P < 0
                      · have HRD := Lib.hid (rdy_succs hdn)
                        clear hdn
                        go_wp2_with fail
                        go_at_call 92
                        refine (before_any ⟨A1, ps, c1, A2, bs, c2, A3, os, c3⟩ k m wr (by have := hb.size; omega) (HD.out.below hb hm) hkl).mono ?_
                        rintro e w5 ⟨X, cx, rfl, hcx, hb5⟩
                        dsimp only at hcx ⊢
                        have hln : (succs bs false k).length ≤ 1000000 := HLS.out
                        have O5 := Lib.hid (HO.out.call hb5)
                        have R5 := Lib.hid (HR.out.call hb5)
                        have B5 := Lib.hid (HB.out.call hb5)
                        have N5 := Lib.hid (hb.trans (hb5.mono hb.size))
                        have HCX := Lib.hid hcx
                        clear hb5 hb b0 b1 b2 f0 fc z0 z1 hcx
                        go_wp2_with fail
                        go_loopw [11, 58] (fun r i wr => po4T bs outN w w5 (succs bs false k) r i wr) (fun _ i _ => (succs bs false k).length - (intOf i).toNat)
                        case atStart => exact ⟨0, Nat.zero_le _, rfl, rfl, rfl⟩
                        case round =>
                          as_aux_lemma =>
                            obtain ⟨t, ht, rfl, rfl, rfl⟩ := hrel
                            by_cases hlt : t < (succs bs false k).length
                            · obtain ⟨ab, ao, z, rfl, hab, hab2, hz, hzc⟩ := HCX.out.int_ hlt
                              have hzb := HOK.out k hkl z (succs_preds (List.mem_of_getElem? hz))
                              obtain ⟨a, rfl⟩ := Int.eq_ofNat_of_zero_le hzb.1
                              have ha : a < bs.length := by have := hzb.2; omega
                              have hai : (a : Int) < (bs.length : Int) := by omega
                              have HZ := Lib.hid (allT_succ (bs := bs) (out := outN) hz)
                              clear hz hzb
                              have fd : wr.cell? ⟨w.heap.size + 1, a, none⟩ = some (.bool (doneB bs outN a)) := by
                                rw [R5.out.cell, bools_get (by rw [doneL_len]; exact ha), doneL_get ha]
                              have z1 := R5.out.lt
                              cases hr : allT bs outN (succs bs false k) t with
                              | false =>
                                have HRT := Lib.hid hr
                                clear hr
                                go_wp2_with fail
                                exact ⟨⟨t + 1, by omega, by go_num, by rw [HZ.out, HRT.out]; rfl, rfl⟩, by simp [intOf]; omega⟩
                              | true =>
                                have HRT := Lib.hid hr
                                clear hr
                                go_wp2_with fail
                                exact ⟨⟨t + 1, by omega, by go_num, by rw [HZ.out, HRT.out, Int.toNat_natCast]; rfl, rfl⟩, by simp [intOf]; omega⟩
                            · have hrd : rdy bs outN k = allT bs outN (succs bs false k) t := by
                                rw [HRD.out, allT_all (by omega)]
                              cases hr : allT bs outN (succs bs false k) t with
                              | true =>
                                have HNX := Lib.hid (pickI_hit (by rw [← HP.out]; exact hpn) (hrd.trans hr))
                                clear hr hrd
                                go_wp2_with fail
                                exact ⟨⟨k + 1, by omega, by go_num, by rw [HNX.out], O5.out, R5.out, B5.out, N5.out⟩, by simp [intOf]; omega⟩
                              | false =>
                                have HNO := Lib.hid (pickI_no (.inr (hrd.trans hr)))
                                clear hr hrd
                                go_wp2_with fail
                                exact ⟨⟨k + 1, by omega, by go_num, by rw [HNO.out, HP.out], O5.out, R5.out, B5.out, N5.out⟩, by simp [intOf]; omega⟩
                      · have HNO := Lib.hid (pickI_no (bs := bs) (out := outN) (k := k) (.inl (by rw [← HP.out]; omega)))
                        clear hdn
                        go_wp2_with fail
                        go_at_call 92
                        refine (before_any ⟨A1, ps, c1, A2, bs, c2, A3, os, c3⟩ k m wr (by have := hb.size; omega) (HD.out.below hb hm) hkl).mono ?_
                        rintro e w5 ⟨X, cx, rfl, hcx, hb5⟩
                        dsimp only at hcx ⊢
                        have hln : (succs bs false k).length ≤ 1000000 := HLS.out
                        have O5 := Lib.hid (HO.out.call hb5)
                        have R5 := Lib.hid (HR.out.call hb5)
                        have B5 := Lib.hid (HB.out.call hb5)
                        have N5 := Lib.hid (hb.trans (hb5.mono hb.size))
                        have HCX := Lib.hid hcx
                        clear hb5 hb b0 b1 b2 f0 fc z0 z1 hcx
                        go_wp2_with fail
                        go_loopw [11, 58] (fun r i wr => po4F w w5 (succs bs false k) r i wr) (fun _ i _ => (succs bs false k).length - (intOf i).toNat)
                        case atStart => exact ⟨0, Nat.zero_le _, rfl, rfl, rfl⟩
                        case round =>
                          as_aux_lemma =>
                            obtain ⟨t, ht, rfl, rfl, rfl⟩ := hrel
                            by_cases hlt : t < (succs bs false k).length
                            · obtain ⟨ab, ao, z, rfl, hab, hab2, hz, hzc⟩ := HCX.out.int_ hlt
                              clear hz
                              go_wp2_with fail
                              exact ⟨⟨t + 1, by omega, by go_num, rfl, rfl⟩, by simp [intOf]; omega⟩
                            · go_wp2_with fail
                              first
                                | exact ⟨⟨k + 1, by omega, by go_num, by rw [HNO.out, HP.out], O5.out, R5.out, B5.out, N5.out⟩, by simp [intOf]; omega⟩
                                | (refine ⟨?_, by simp [intOf]; omega⟩
                                   repeat apply Exists.intro
                                   exact ⟨⟨k + 1, by omega, by go_num, by rw [HNO.out, HP.out], O5.out, R5.out, B5.out, N5.out⟩, rfl⟩)
                  · have hkn : k = bs.length := by omega
                    subst hkn
                    clear hk hkl
                    cases hn : nxt bs outN with
                    | none =>
                      rw [pick_none hn] at hp
                      subst hp
                      have HF := Lib.hid (HORD.out.done hn)
                      clear hn
                      go_wp2_with fail
                      have he : ordErr bs = 24 := by unfold ordErr; rw [HF.out, if_neg (by have := HLN.out; omega)]
                      have hv : ordL bs = [] := by unfold ordL; rw [he]; rfl
                      refine bodyPost_ret (v := .tuple #[.slice none 0 0, .iface 33 (.int .i64 24)]) (by simp [results, Tryd.results53, go_sem]) rfl ⟨_, by rw [he]; rfl, by rw [hv]; exact OwnI.nil_ _ _, hb⟩
                    | some q =>
                      rw [pick_some hn] at hp
                      subst hp
                      have hq := (nxt_some hn).1
                      have hqi : (q : Int) < (bs.length : Int) := by omega
                      have hlo := HORD.out.lt hn
                      have HN := Lib.hid hn
                      clear hn
                      have fc : wr.cell? ⟨w.heap.size + 1, q, none⟩ = some (.bool (doneB bs outN q)) := by
                        rw [HR.out.cell, bools_get (by rw [doneL_len]; exact hq), doneL_get hq]
                      have hlt7 : (natI outN).length < 1000000 := by rw [natI_len]; omega
                      have hbz := hb.size
                      go_wp2_with (at_builtin; refine push_int rfl _ _ rfl (w.heap.size + 2) _ (natI outN) (q : Int) wr.heap.size rfl ((HO.out.setLow (by omega) q (.bool true)).alloc _) rfl (by simp [go_sem]) hlt7 (by simp; omega) ?_; intro v' w6 hown hg hb6)
                      have hst : Below (w.heap.size + 2) ((wr.setCell ⟨w.heap.size + 1, q, none⟩ (.bool true))) w6 := ((Below.refl _ _).alloc (by simp; omega) _).trans hb6
                      have e1 : l' + (outN ++ [q]).length = nonDel bs := by have := HLN.out; simp; omega
                      have e2 : RowD w6 (w.heap.size + 1) (bools (doneL bs (outN ++ [q]))) 4 := by rw [doneL_push, bools_set]; exact (HR.out.set_ q (.bool true)).below hst (by omega)
                      have e3 := (HB.out.other_ (k := w.heap.size + 1) (by omega) q (.bool true)).below hst (by omega)
                      have e4 : Below w.heap.size w w6 := (ext_set hb (p := ⟨w.heap.size + 1, q, none⟩) (by simp) (.bool true)).trans (hst.mono (by omega))
                      have e5 : OwnI w6 (w.heap.size + 2) v' (natI (outN ++ [q])) := by rw [natI_app]; exact hown
                      refine ⟨⟨outN ++ [q], l', ?_, e1, HORD.out.push HN.out, e5, e2, e3, e4⟩, ?_⟩
                      · go_num
                      · first | (simp [intOf]; done) | (simp [intOf]; omega)
def outE (n : Nat) (a : Int) : Int := if 0 ≤ a ∧ a < (n : Int) then 0 else 10
def clipU (k : Int) : Bool := k == 11
def valU (k : Int) : Bool := k == 11 || k == 1 || k == 2 || k == 6
def mostM (np nb : Nat) (k : Int) : Nat := if k = 0 then np else nb
def blkErr (np nb : Nat) (b : Bk) : Int :=
  if arityM b.kind < 0 then 7 else if ¬ ((b.args.length : Nat) : Int) = arityM b.kind then 11 else if ¬ firstErr (b.args.map (outE (mostM np nb b.kind))) = 0 then 10
  else if ¬ scalE b.vn b.ve (valU b.kind) = 0 then scalE b.vn b.ve (valU b.kind) else if ¬ scalE b.un b.ue (clipU b.kind) = 0 then scalE b.un b.ue (clipU b.kind)
  else if clipU b.kind = true ∧ 0 < scCmp b.vn b.ve b.un b.ue then 26 else 0
section
variable {np nb : Nat} {b : Bk}
theorem be1 (h : arityM b.kind < 0) : blkErr np nb b = 7 := if_pos h
theorem be2 (h : ¬ arityM b.kind < 0) (h2 : ¬ ((b.args.length : Nat) : Int) = arityM b.kind) : blkErr np nb b = 11 := by unfold blkErr; rw [if_neg h, if_pos h2]
theorem be3 (h : ¬ arityM b.kind < 0) (h2 : ((b.args.length : Nat) : Int) = arityM b.kind) {M : Nat} (hM : mostM np nb b.kind = M) (h3 : ¬ firstErr (b.args.map (outE M)) = 0) : blkErr np nb b = 10 := by
  subst hM; unfold blkErr; rw [if_neg h, if_neg (not_not_intro h2), if_pos h3]
theorem be4 (h : ¬ arityM b.kind < 0) (h2 : ((b.args.length : Nat) : Int) = arityM b.kind) {M : Nat} (hM : mostM np nb b.kind = M) (h3 : firstErr (b.args.map (outE M)) = 0) {vu : Bool} (hv : valU b.kind = vu) (h4 : ¬ scalE b.vn b.ve vu = 0) : blkErr np nb b = scalE b.vn b.ve vu := by
  subst hM hv; unfold blkErr; rw [if_neg h, if_neg (not_not_intro h2), if_neg (not_not_intro h3), if_pos h4]
theorem be5 (h : ¬ arityM b.kind < 0) (h2 : ((b.args.length : Nat) : Int) = arityM b.kind) {M : Nat} (hM : mostM np nb b.kind = M) (h3 : firstErr (b.args.map (outE M)) = 0) {vu cu : Bool} (hv : valU b.kind = vu) (h4 : scalE b.vn b.ve vu = 0) (hc : clipU b.kind = cu)
    (h5 : ¬ scalE b.un b.ue cu = 0) : blkErr np nb b = scalE b.un b.ue cu := by
  subst hM hv hc; unfold blkErr; rw [if_neg h, if_neg (not_not_intro h2), if_neg (not_not_intro h3), if_neg (not_not_intro h4), if_pos h5]
theorem be6 (h : ¬ arityM b.kind < 0) (h2 : ((b.args.length : Nat) : Int) = arityM b.kind) {M : Nat} (hM : mostM np nb b.kind = M) (h3 : firstErr (b.args.map (outE M)) = 0) {vu cu : Bool} (hv : valU b.kind = vu) (h4 : scalE b.vn b.ve vu = 0) (hc : clipU b.kind = cu)
    (h5 : scalE b.un b.ue cu = 0) (h6 : cu = true ∧ 0 < scCmp b.vn b.ve b.un b.ue) : blkErr np nb b = 26 := by
  subst hM hv hc; unfold blkErr; rw [if_neg h, if_neg (not_not_intro h2), if_neg (not_not_intro h3), if_neg (not_not_intro h4), if_neg (not_not_intro h5), if_pos h6]
theorem be7 (h : ¬ arityM b.kind < 0) (h2 : ((b.args.length : Nat) : Int) = arityM b.kind) {M : Nat} (hM : mostM np nb b.kind = M) (h3 : firstErr (b.args.map (outE M)) = 0) {vu cu : Bool} (hv : valU b.kind = vu) (h4 : scalE b.vn b.ve vu = 0) (hc : clipU b.kind = cu)
    (h5 : scalE b.un b.ue cu = 0) (h6 : ¬ (cu = true ∧ 0 < scCmp b.vn b.ve b.un b.ue)) : blkErr np nb b = 0 := by
  subst hM hv hc; unfold blkErr; rw [if_neg h, if_neg (not_not_intro h2), if_neg (not_not_intro h3), if_neg (not_not_intro h4), if_neg (not_not_intro h5), if_neg h6]
end
theorem scOk_of {n e : Int} (h : scalE n e true = 0) : scOk n e := by
  unfold scalE at h
  rw [if_pos rfl] at h
  by_cases hs : scOk n e
  · exact hs
  · rw [if_neg hs] at h; cases h
theorem out_hit {args : List Int} {M t : Nat} {z : Int} (hz : args[t]? = some z) (hb : ¬ (0 ≤ z ∧ z < (M : Int))) (hf : firstErr ((args.map (outE M)).take t) = 0) : ¬ firstErr (args.map (outE M)) = 0 := by
  rw [fe_hit (k := t) (e := 10) (by rw [List.getElem?_map, hz]; exact congrArg some (if_neg hb)) (by decide) hf]
  decide
theorem out_step {args : List Int} {M t : Nat} {z : Int} (hz : args[t]? = some z) (hb : 0 ≤ z ∧ z < (M : Int)) (hf : firstErr ((args.map (outE M)).take t) = 0) : firstErr ((args.map (outE M)).take (t + 1)) = 0 :=
  fe_step (by rw [List.getElem?_map, hz]; exact congrArg some (if_pos hb)) hf
structure KP (W : World) (m : Nat) (w : World) : Prop where
  is : Below m W w
  fits : m ≤ w.heap.size
theorem KP.drew {W w : World} {m : Nat} (h : KP W m w) : KP W m w.drew := ⟨h.is.drew, h.fits⟩
theorem KP.call {W w w' : World} {m : Nat} (h : KP W m w) (hb : Below w.heap.size w w') : KP W m w' := ⟨h.is.trans (hb.mono h.fits), Nat.le_trans h.fits hb.size⟩
theorem KP.all {W w : World} {m : Nat} (h : KP W m w) : (∀ b o, b < m → w.cell? ⟨b, o, none⟩ = W.cell? ⟨b, o, none⟩) ∧ KP W m w := ⟨fun _ _ hb => h.is.cell hb, h⟩
def argRel (args : List Int) (M : Nat) (W : World) (i : Value) (wr : World) : Prop := ∃ t : Nat, t ≤ args.length ∧ i = .int .i64 (t : Int) ∧ firstErr ((args.map (outE M)).take t) = 0 ∧ wr = W
end Go.Proofs.YtfooonellkgaeaaDoor
namespace Go.Proofs.YtfooonellkgaeaaDoor
open Go.RowKit
def portE (p : Prt) : Int := if -2147483648 ≤ p.lo ∧ p.lo ≤ p.hi ∧ p.hi < 2147483648 ∧ 0 ≤ p.fr ∧ p.fr ≤ 30 then 0 else 3
def sizeOk (ps : List Prt) (bs : List Bk) (os : List Int) : Prop := ps.length ≤ 16 ∧ bs.length ≤ 64 ∧ os.length ≤ 16
def preErr (ps : List Prt) (bs : List Bk) (os : List Int) : Int := firstErr (ps.map portE ++ (bs.map (blkErr ps.length bs.length) ++ os.map (outE bs.length)))
instance (ps : List Prt) (bs : List Bk) (os : List Int) : Decidable (sizeOk ps bs os) := by unfold sizeOk; infer_instance
def dgErr (ps : List Prt) (bs : List Bk) (os : List Int) : Int := if ¬ sizeOk ps bs os then 4 else if ¬ preErr ps bs os = 0 then preErr ps bs os else ordErr bs
theorem firstErr_zero {l : List Int} (h : firstErr l = 0) : ∀ x ∈ l, x = 0 := by
  induction l with
  | nil => simp
  | cons y l ih =>
    unfold firstErr at h
    by_cases hy : y = 0
    · rw [if_pos hy] at h
      intro x hx
      rcases List.mem_cons.1 hx with rfl | hx
      · exact hy
      · exact ih h x hx
    · rw [if_neg hy] at h
      exact absurd h hy
theorem blk_args {np nb : Nat} {b : Bk} (h : blkErr np nb b = 0) : 0 ≤ arityM b.kind ∧ ((b.args.length : Nat) : Int) = arityM b.kind ∧ ∀ a ∈ b.args, 0 ≤ a ∧ a < (mostM np nb b.kind : Int) := by
  unfold blkErr at h
  by_cases h1 : arityM b.kind < 0
  · rw [if_pos h1] at h; cases h
  · rw [if_neg h1] at h
    by_cases h2 : ¬ ((b.args.length : Nat) : Int) = arityM b.kind
    · rw [if_pos h2] at h; cases h
    · rw [if_neg h2] at h
      by_cases h3 : ¬ firstErr (b.args.map (outE (mostM np nb b.kind))) = 0
      · rw [if_pos h3] at h; cases h
      · refine ⟨by omega, Decidable.of_not_not h2, fun a ha => ?_⟩
        have := firstErr_zero (Decidable.of_not_not h3) (outE (mostM np nb b.kind) a) (List.mem_map_of_mem ha)
        unfold outE at this
        by_cases h4 : 0 ≤ a ∧ a < (mostM np nb b.kind : Int)
        · exact h4
        · rw [if_neg h4] at this; cases this
theorem succ_ok {np : Nat} {bs : List Bk} (h : firstErr (bs.map (blkErr np bs.length)) = 0) : SuccOk bs := by
  intro i hi a ha
  have hx := List.getElem?_eq_getElem hi
  rw [preds_of hx] at ha
  by_cases hk : bs[i].kind = 0
  · rw [if_pos hk] at ha; cases ha
  · rw [if_neg hk] at ha
    have h0 := firstErr_zero h (blkErr np bs.length bs[i]) (List.mem_map_of_mem (List.getElem_mem hi))
    have := (blk_args h0).2.2 a ha
    unfold mostM at this
    rw [if_neg hk] at this
    exact this
section
variable {ps : List Prt} {bs : List Bk} {os : List Int}
theorem de0 (h : ¬ sizeOk ps bs os) : dgErr ps bs os = 4 := if_pos h
theorem de1 (h : sizeOk ps bs os) {e : Int} (h2 : preErr ps bs os = e) (h3 : ¬ e = 0) : dgErr ps bs os = e := by subst h2; unfold dgErr; rw [if_neg (not_not_intro h), if_pos h3]
theorem de2 (h : sizeOk ps bs os) (h2 : preErr ps bs os = 0) : dgErr ps bs os = ordErr bs := by unfold dgErr; rw [if_neg (not_not_intro h), if_neg (not_not_intro h2)]
theorem pe1 {k : Nat} {p : Prt} {e : Int} (hp : ps[k]? = some p) (he : portE p = e) (h0 : ¬ e = 0) (hf : firstErr ((ps.map portE).take k) = 0) : preErr ps bs os = e :=
  fe_mid (pre := []) (k := k) rfl (by rw [List.getElem?_map, hp]; exact congrArg some he) h0 hf
theorem pe2 {k : Nat} {b : Bk} {e : Int} (h1 : firstErr (ps.map portE) = 0) (hp : bs[k]? = some b) (he : blkErr ps.length bs.length b = e) (h0 : ¬ e = 0) (hf : firstErr ((bs.map (blkErr ps.length bs.length)).take k) = 0) : preErr ps bs os = e :=
  fe_mid h1 (k := k) (by rw [List.getElem?_map, hp]; exact congrArg some he) h0 hf
theorem pe3 {k : Nat} {o : Int} {e : Int} (h1 : firstErr (ps.map portE) = 0) (h2 : firstErr (bs.map (blkErr ps.length bs.length)) = 0) (hp : os[k]? = some o) (he : outE bs.length o = e) (h0 : ¬ e = 0) (hf : firstErr ((os.map (outE bs.length)).take k) = 0) : preErr ps bs os = e := by
  unfold preErr
  rw [firstErr_append, if_pos h1, firstErr_append, if_pos h2]
  exact fe_hit (k := k) (by rw [List.getElem?_map, hp]; exact congrArg some he) h0 hf
theorem pe4 (h1 : firstErr (ps.map portE) = 0) (h2 : firstErr (bs.map (blkErr ps.length bs.length)) = 0) (h3 : firstErr (os.map (outE bs.length)) = 0) : preErr ps bs os = 0 := by
  unfold preErr
  rw [firstErr_append, if_pos h1, firstErr_append, if_pos h2, h3]
theorem fs1 {α : Type} {l : List α} {f : α → Int} {k : Nat} {x : α} (hx : l[k]? = some x) (he : f x = 0) (hf : firstErr ((l.map f).take k) = 0) : firstErr ((l.map f).take (k + 1)) = 0 := fe_step (by rw [List.getElem?_map, hx]; exact congrArg some he) hf
end
def cqRel (w : World) (vs : List Value) (es : List Int) (i : Value) (wr : World) : Prop :=
  ∃ k : Nat, k ≤ es.length ∧ i = .int .i64 (k : Int) ∧ firstErr (es.take k) = 0 ∧ RowD wr w.heap.size vs 41 ∧ Below w.heap.size w wr
end Go.Proofs.YtfooonellkgaeaaDoor
namespace Go.Proofs.YtfooonellkgaeaaDoor
open Go.RowKit
theorem dys_len {n e : Int} (h : scOk n e) : (canon (dyShift n 0 e).1.natAbs).length ≤ 50000 := by
  obtain ⟨h1, h2, h3, h4⟩ := h
  unfold dyShift
  split
  · exact Nat.le_trans (canon_len_mono (nf_abs_le _ _)) (Nat.le_trans (canon_len_le (k := 1) (by omega)) (by decide))
  · refine Nat.le_trans (canon_len_mono (nf_abs_le _ _)) ?_
    rw [abs_mul_pow]
    refine Nat.le_trans (canon_len_shift _ _) ?_
    have := canon_len_le (n := n.natAbs) (k := 1) (by omega)
    omega
theorem check_bad (d : Dg) (b : Bk) (w : World) (h : ¬ (0 ≤ arityM b.kind ∧ ((b.args.length : Nat) : Int) = arityM b.kind)) (hl : b.args.length ≤ 1000000) :
    Calls Tryd.prog 52 #[d.val, b.val] w fun e w' => e = .returned (errV (blkErr d.ps.length d.bs.length b)) ∧ Below w.heap.size w w' := by
  obtain ⟨A1, ps, c1, A2, bs, c2, A3, os, c3⟩ := d
  obtain ⟨kind, A, args, cap, vn, ve, un, ue⟩ := b
  dsimp only at h hl
  simp only [Dg.val, Bk.val]
  have b0 : Below w.heap.size w ((w.alloc (.cells #[.slice A1 ps.length c1, .slice A2 bs.length c2, .slice A3 os.length c3] 41)).alloc (.cells #[.int .i64 kind, .slice A args.length cap, .int .i64 vn, .int .i64 ve, .int .i64 un, .int .i64 ue] 66)) := ext_alloc (al_ _ _) _
  obtain ⟨K, hK⟩ : ∃ K, arityM kind = K := ⟨_, rfl⟩
  have HKK := Lib.hid hK
  by_cases hk0 : K < 0
  · have HE := Lib.hid (be1 (np := ps.length) (nb := bs.length) (b := ⟨kind, A, args, cap, vn, ve, un, ue⟩) (by show arityM kind < 0; omega))
    clear h hK
    go_enter Tryd.func52, Tryd.ntmps52
    go_wp2_with (go_at_call 89; refine (arity_any _ _).mono ?_; rintro e w1 ⟨rfl, rfl⟩; rw [HKK.out])
    go_ret
    exact ⟨er_n HE.out (by decide), b0⟩
  · have HE := Lib.hid (be2 (np := ps.length) (nb := bs.length) (b := ⟨kind, A, args, cap, vn, ve, un, ue⟩) (by show ¬ arityM kind < 0; omega) (fun h2 => h ⟨by omega, h2⟩))
    have hne : (((args.length : Nat) : Int) != K) = true := by
      rw [bne_iff_ne]
      intro h2
      exact h ⟨by omega, by omega⟩
    have hk1 : 0 ≤ K := by omega
    clear h hK hk0
    go_enter Tryd.func52, Tryd.ntmps52
    go_wp2_with (go_at_call 89; refine (arity_any _ _).mono ?_; rintro e w1 ⟨rfl, rfl⟩; rw [HKK.out])
    go_ret
    exact ⟨er_n HE.out (by decide), b0⟩
theorem check_0 (A1 : Option Addr) (ps : List Prt) (c1 : Nat) (A2 : Option Addr) (bs : List Bk) (c2 : Nat) (A3 : Option Addr) (os : List Int) (c3 : Nat) (A : Option Addr) (args : List Int) (cap : Nat) (vn ve un ue : Int) (m : Nat) (w : World)
    (hk0 : ¬ arityM 0 < 0) (hk1 : ((args.length : Nat) : Int) = arityM 0) (hl : args.length ≤ 1000000) (hl1 : ps.length ≤ 1000000) (hl2 : bs.length ≤ 1000000) (hm : m ≤ w.heap.size) (ha : CellsAt w m A (ints args)) (ht : TabAt w) :
    Calls Tryd.prog 52 #[.agg #[.slice A1 ps.length c1, .slice A2 bs.length c2, .slice A3 os.length c3], .agg #[.int .i64 0, .slice A args.length cap, .int .i64 vn, .int .i64 ve, .int .i64 un, .int .i64 ue]] w fun e w' => e = .returned (errV (blkErr ps.length bs.length ⟨0, A, args, cap, vn, ve, un, ue⟩)) ∧ Below w.heap.size w w' := by
  have b0 : Below w.heap.size w ((w.alloc (.cells #[.slice A1 ps.length c1, .slice A2 bs.length c2, .slice A3 os.length c3] 41)).alloc (.cells #[.int .i64 0, .slice A args.length cap, .int .i64 vn, .int .i64 ve, .int .i64 un, .int .i64 ue] 66)) := ext_alloc (al_ _ _) _
  have r0 := (RowD.new_ w [.slice A1 ps.length c1, .slice A2 bs.length c2, .slice A3 os.length c3] 41).call (al_ _ (.cells #[.int .i64 0, .slice A args.length cap, .int .i64 vn, .int .i64 ve, .int .i64 un, .int .i64 ue] 66))
  have r1 := RowD.new_ (w.alloc (.cells #[.slice A1 ps.length c1, .slice A2 bs.length c2, .slice A3 os.length c3] 41)) [.int .i64 0, .slice A args.length cap, .int .i64 vn, .int .i64 ve, .int .i64 un, .int .i64 ue] 66
  rw [show (w.alloc (.cells #[.slice A1 ps.length c1, .slice A2 bs.length c2, .slice A3 os.length c3] 41)).heap.size = w.heap.size + 1 by simp] at r1
  have HT := Lib.hid ht
  have HA := Lib.hid ha
  have HK0 := Lib.hid hk0
  have HK1 := Lib.hid hk1
  obtain ⟨K, hK⟩ : ∃ K, arityM 0 = K := ⟨_, rfl⟩
  have HKK := Lib.hid hK
  have hne : (((args.length : Nat) : Int) != K) = false := by rw [hk1, hK]; simp
  have hkk : 0 ≤ K := by omega
  clear ht ha hk0 hk1 hK
  go_enter Tryd.func52, Tryd.ntmps52
  have HM : Hid (mostM ps.length bs.length 0 = ps.length) := Lib.hid (rfl)
  have HV : Hid (valU 0 = false) := Lib.hid (by decide)
  have HU : Hid (clipU 0 = false) := Lib.hid (by decide)
  go_wp2_with (go_at_call 89; refine (arity_any _ _).mono ?_; rintro e w1 ⟨rfl, rfl⟩; rw [HKK.out])
  obtain ⟨W, hW⟩ : ∃ W, W = ((w.alloc (.cells #[.slice A1 ps.length c1, .slice A2 bs.length c2, .slice A3 os.length c3] 41)).alloc (.cells #[.int .i64 0, .slice A args.length cap, .int .i64 vn, .int .i64 ve, .int .i64 un, .int .i64 ue] 66)) := ⟨_, rfl⟩
  rw [← hW]
  rw [← hW] at r0 r1 b0
  have hWs : W.heap.size = w.heap.size + 2 := by rw [hW]; simp
  clear hW
  have HTW := Lib.hid (HT.out.below b0 HT.out.1)
  have q0 : W.cell? ⟨w.heap.size + 1, 0, none⟩ = some (.int .i64 0) := r1.cell 0
  have q2 : W.cell? ⟨w.heap.size + 1, 2, none⟩ = some (.int .i64 vn) := r1.cell 2
  have q3 : W.cell? ⟨w.heap.size + 1, 3, none⟩ = some (.int .i64 ve) := r1.cell 3
  have HB0 := Lib.hid b0
  have R1 := Lib.hid r1
  have HA2 := Lib.hid (HA.out.below b0 hm)
  have hbs1 : (W.heap.size : Int) = w.heap.size + 2 := by omega
  clear r0 r1 b0
  go_loopw [36] (fun i wr => argRel args ps.length W i wr) (fun i _ => args.length - (intOf i).toNat)
  case atStart => exact ⟨0, Nat.zero_le _, rfl, rfl, rfl⟩
  case round =>
    as_aux_lemma =>
      obtain ⟨t, ht, rfl, hf, rfl⟩ := hrel
      have HF := Lib.hid hf
      clear hf
      by_cases hlt : t < args.length
      · obtain ⟨ab, ao, z, rfl, hab, hab2, hz, hzc⟩ := HA2.out.int_ hlt
        have HZ := Lib.hid hz
        clear hz
        by_cases h0 : z < 0
        · have hE := Lib.hid (be3 (np := ps.length) (nb := bs.length) (b := ⟨0, some ⟨ab, ao, none⟩, args, cap, vn, ve, un, ue⟩) (Int.not_lt.2 HK0.out) HK1.out HM.out (out_hit HZ.out (by omega) HF.out))
          go_wp2_with fail
          go_ret
          exact ⟨er_n (k := 10) hE.out (by decide), HB0.out⟩
        · have h1 : 0 ≤ z := by omega
          clear h0
          by_cases h2 : z < (ps.length : Int)
          · have HZ2 := Lib.hid (out_step HZ.out ⟨h1, h2⟩ HF.out)
            go_wp2_with fail
            all_goals try (exfalso; omega)
            exact ⟨⟨t + 1, by omega, by go_num, HZ2.out, rfl⟩, by simp [intOf]; omega⟩
          · have hE := Lib.hid (be3 (np := ps.length) (nb := bs.length) (b := ⟨0, some ⟨ab, ao, none⟩, args, cap, vn, ve, un, ue⟩) (Int.not_lt.2 HK0.out) HK1.out HM.out (out_hit HZ.out (by omega) HF.out))
            have h3 : (ps.length : Int) ≤ z := by omega
            clear h2
            go_wp2_with fail
            all_goals try (exfalso; omega)
            go_ret
            exact ⟨er_n (k := 10) hE.out (by decide), HB0.out⟩
      · have P1 := Lib.hid (fe_all (k := t) (by rw [List.length_map]; omega) HF.out)
        clear HF
        have hE4 := fun h => be4 (np := ps.length) (nb := bs.length) (b := ⟨0, A, args, cap, vn, ve, un, ue⟩) (Int.not_lt.2 HK0.out) HK1.out HM.out P1.out HV.out h
        have hE5 := fun h4 h => be5 (np := ps.length) (nb := bs.length) (b := ⟨0, A, args, cap, vn, ve, un, ue⟩) (Int.not_lt.2 HK0.out) HK1.out HM.out P1.out HV.out h4 HU.out h
        have hE6 := fun h4 h5 h => be6 (np := ps.length) (nb := bs.length) (b := ⟨0, A, args, cap, vn, ve, un, ue⟩) (Int.not_lt.2 HK0.out) HK1.out HM.out P1.out HV.out h4 HU.out h5 h
        have hE7 := fun h4 h5 h => be7 (np := ps.length) (nb := bs.length) (b := ⟨0, A, args, cap, vn, ve, un, ue⟩) (Int.not_lt.2 HK0.out) HK1.out HM.out P1.out HV.out h4 HU.out h5 h
        dsimp only at hE4 hE5 hE6 hE7
        have HE4 := Lib.hid hE4
        have HE5 := Lib.hid hE5
        have HE6 := Lib.hid hE6
        have HE7 := Lib.hid hE7
        clear hE4 hE5 hE6 hE7
        go_wp2_with fail
        go_at_call 90
        refine (scalar_any vn ve false wr).mono ?_
        rintro e w5 ⟨rfl, hb5⟩
        have N5 := Lib.hid (HB0.out.trans (hb5.mono (by omega)))
        have r5 := R1.out.call hb5
        have HT5 := Lib.hid (HTW.out.below (hb5.mono (B' := 1) (by omega)) (by omega))
        have hz5 := hb5.size
        have z5 : w.heap.size + 1 < w5.heap.size := by omega
        have q4 : w5.cell? ⟨w.heap.size + 1, 4, none⟩ = some (.int .i64 un) := r5.cell 4
        have q5 : w5.cell? ⟨w.heap.size + 1, 5, none⟩ = some (.int .i64 ue) := r5.cell 5
        have R5 := Lib.hid r5
        clear r5 hb5 q0 q2 q3 hlt hbs1
        by_cases h4 : scalE vn ve false = 0
        · rw [h4, errV_0]
          have H4 := Lib.hid h4
          clear h4
          go_wp2_with fail
          go_at_call 90
          refine (scalar_any un ue false w5).mono ?_
          rintro e w6 ⟨rfl, hb6⟩
          have N6 := Lib.hid (N5.out.trans (hb6.mono (by omega)))
          have r6 := R5.out.call hb6
          have HT6 := Lib.hid (HT5.out.below (hb6.mono (B' := 1) (by omega)) (by omega))
          have hz6 := hb6.size
          have z6 : w.heap.size + 1 < w6.heap.size := by omega
          have q2 : w6.cell? ⟨w.heap.size + 1, 2, none⟩ = some (.int .i64 vn) := r6.cell 2
          have q3 : w6.cell? ⟨w.heap.size + 1, 3, none⟩ = some (.int .i64 ve) := r6.cell 3
          have q6 : w6.cell? ⟨w.heap.size + 1, 4, none⟩ = some (.int .i64 un) := r6.cell 4
          have q7 : w6.cell? ⟨w.heap.size + 1, 5, none⟩ = some (.int .i64 ue) := r6.cell 5
          clear r6 hb6 q4 q5 z5
          by_cases h5 : scalE un ue false = 0
          · rw [h5, errV_0]
            have H5 := Lib.hid h5
            clear h5
            go_wp2_with fail
            go_quiet (fail)
            go_wp2_with fail
            go_ret
            exact ⟨er_0 (HE7.out H4.out H5.out (fun h => by cases h.1)), by repeat (first | exact N6.out | refine ext_drew ?_ | refine ext_drewN ?_ _)⟩
          · have HE := Lib.hid (HE5.out H4.out h5)
            rw [errV_n h5]
            have H5 := Lib.hid h5
            clear h5
            go_wp2_with fail
            go_ret
            exact ⟨er_n HE.out H5.out, N6.out⟩
        · have HE := Lib.hid (HE4.out h4)
          rw [errV_n h4]
          have H4 := Lib.hid h4
          clear h4
          go_wp2_with fail
          go_ret
          exact ⟨er_n HE.out H4.out, N5.out⟩
theorem check_11 (A1 : Option Addr) (ps : List Prt) (c1 : Nat) (A2 : Option Addr) (bs : List Bk) (c2 : Nat) (A3 : Option Addr) (os : List Int) (c3 : Nat) (A : Option Addr) (args : List Int) (cap : Nat) (vn ve un ue : Int) (m : Nat) (w : World)
    (hk0 : ¬ arityM 11 < 0) (hk1 : ((args.length : Nat) : Int) = arityM 11) (hl : args.length ≤ 1000000) (hl1 : ps.length ≤ 1000000) (hl2 : bs.length ≤ 1000000) (hm : m ≤ w.heap.size) (ha : CellsAt w m A (ints args)) (ht : TabAt w) :
    Calls Tryd.prog 52 #[.agg #[.slice A1 ps.length c1, .slice A2 bs.length c2, .slice A3 os.length c3], .agg #[.int .i64 11, .slice A args.length cap, .int .i64 vn, .int .i64 ve, .int .i64 un, .int .i64 ue]] w fun e w' => e = .returned (errV (blkErr ps.length bs.length ⟨11, A, args, cap, vn, ve, un, ue⟩)) ∧ Below w.heap.size w w' := by
  have b0 : Below w.heap.size w ((w.alloc (.cells #[.slice A1 ps.length c1, .slice A2 bs.length c2, .slice A3 os.length c3] 41)).alloc (.cells #[.int .i64 11, .slice A args.length cap, .int .i64 vn, .int .i64 ve, .int .i64 un, .int .i64 ue] 66)) := ext_alloc (al_ _ _) _
  have r0 := (RowD.new_ w [.slice A1 ps.length c1, .slice A2 bs.length c2, .slice A3 os.length c3] 41).call (al_ _ (.cells #[.int .i64 11, .slice A args.length cap, .int .i64 vn, .int .i64 ve, .int .i64 un, .int .i64 ue] 66))
  have r1 := RowD.new_ (w.alloc (.cells #[.slice A1 ps.length c1, .slice A2 bs.length c2, .slice A3 os.length c3] 41)) [.int .i64 11, .slice A args.length cap, .int .i64 vn, .int .i64 ve, .int .i64 un, .int .i64 ue] 66
  rw [show (w.alloc (.cells #[.slice A1 ps.length c1, .slice A2 bs.length c2, .slice A3 os.length c3] 41)).heap.size = w.heap.size + 1 by simp] at r1
  have HT := Lib.hid ht
  have HA := Lib.hid ha
  have HK0 := Lib.hid hk0
  have HK1 := Lib.hid hk1
  obtain ⟨K, hK⟩ : ∃ K, arityM 11 = K := ⟨_, rfl⟩
  have HKK := Lib.hid hK
  have hne : (((args.length : Nat) : Int) != K) = false := by rw [hk1, hK]; simp
  have hkk : 0 ≤ K := by omega
  clear ht ha hk0 hk1 hK
  go_enter Tryd.func52, Tryd.ntmps52
  have HM : Hid (mostM ps.length bs.length 11 = bs.length) := Lib.hid (rfl)
  have HV : Hid (valU 11 = true) := Lib.hid (by decide)
  have HU : Hid (clipU 11 = true) := Lib.hid (by decide)
  go_wp2_with (go_at_call 89; refine (arity_any _ _).mono ?_; rintro e w1 ⟨rfl, rfl⟩; rw [HKK.out])
  obtain ⟨W, hW⟩ : ∃ W, W = ((w.alloc (.cells #[.slice A1 ps.length c1, .slice A2 bs.length c2, .slice A3 os.length c3] 41)).alloc (.cells #[.int .i64 11, .slice A args.length cap, .int .i64 vn, .int .i64 ve, .int .i64 un, .int .i64 ue] 66)) := ⟨_, rfl⟩
  rw [← hW]
  rw [← hW] at r0 r1 b0
  have hWs : W.heap.size = w.heap.size + 2 := by rw [hW]; simp
  clear hW
  have HTW := Lib.hid (HT.out.below b0 HT.out.1)
  have q0 : W.cell? ⟨w.heap.size + 1, 0, none⟩ = some (.int .i64 11) := r1.cell 0
  have q2 : W.cell? ⟨w.heap.size + 1, 2, none⟩ = some (.int .i64 vn) := r1.cell 2
  have q3 : W.cell? ⟨w.heap.size + 1, 3, none⟩ = some (.int .i64 ve) := r1.cell 3
  have HB0 := Lib.hid b0
  have R1 := Lib.hid r1
  have HA2 := Lib.hid (HA.out.below b0 hm)
  have hbs1 : (W.heap.size : Int) = w.heap.size + 2 := by omega
  clear r0 r1 b0
  go_loopw [36] (fun i wr => argRel args bs.length W i wr) (fun i _ => args.length - (intOf i).toNat)
  case atStart => exact ⟨0, Nat.zero_le _, rfl, rfl, rfl⟩
  case round =>
    as_aux_lemma =>
      obtain ⟨t, ht, rfl, hf, rfl⟩ := hrel
      have HF := Lib.hid hf
      clear hf
      by_cases hlt : t < args.length
      · obtain ⟨ab, ao, z, rfl, hab, hab2, hz, hzc⟩ := HA2.out.int_ hlt
        have HZ := Lib.hid hz
        clear hz
        by_cases h0 : z < 0
        · have hE := Lib.hid (be3 (np := ps.length) (nb := bs.length) (b := ⟨11, some ⟨ab, ao, none⟩, args, cap, vn, ve, un, ue⟩) (Int.not_lt.2 HK0.out) HK1.out HM.out (out_hit HZ.out (by omega) HF.out))
          go_wp2_with fail
          go_ret
          exact ⟨er_n (k := 10) hE.out (by decide), HB0.out⟩
        · have h1 : 0 ≤ z := by omega
          clear h0
          by_cases h2 : z < (bs.length : Int)
          · have HZ2 := Lib.hid (out_step HZ.out ⟨h1, h2⟩ HF.out)
            go_wp2_with fail
            all_goals try (exfalso; omega)
            exact ⟨⟨t + 1, by omega, by go_num, HZ2.out, rfl⟩, by simp [intOf]; omega⟩
          · have hE := Lib.hid (be3 (np := ps.length) (nb := bs.length) (b := ⟨11, some ⟨ab, ao, none⟩, args, cap, vn, ve, un, ue⟩) (Int.not_lt.2 HK0.out) HK1.out HM.out (out_hit HZ.out (by omega) HF.out))
            have h3 : (bs.length : Int) ≤ z := by omega
            clear h2
            go_wp2_with fail
            all_goals try (exfalso; omega)
            go_ret
            exact ⟨er_n (k := 10) hE.out (by decide), HB0.out⟩
      · have P1 := Lib.hid (fe_all (k := t) (by rw [List.length_map]; omega) HF.out)
        clear HF
        have hE4 := fun h => be4 (np := ps.length) (nb := bs.length) (b := ⟨11, A, args, cap, vn, ve, un, ue⟩) (Int.not_lt.2 HK0.out) HK1.out HM.out P1.out HV.out h
        have hE5 := fun h4 h => be5 (np := ps.length) (nb := bs.length) (b := ⟨11, A, args, cap, vn, ve, un, ue⟩) (Int.not_lt.2 HK0.out) HK1.out HM.out P1.out HV.out h4 HU.out h
        have hE6 := fun h4 h5 h => be6 (np := ps.length) (nb := bs.length) (b := ⟨11, A, args, cap, vn, ve, un, ue⟩) (Int.not_lt.2 HK0.out) HK1.out HM.out P1.out HV.out h4 HU.out h5 h
        have hE7 := fun h4 h5 h => be7 (np := ps.length) (nb := bs.length) (b := ⟨11, A, args, cap, vn, ve, un, ue⟩) (Int.not_lt.2 HK0.out) HK1.out HM.out P1.out HV.out h4 HU.out h5 h
        dsimp only at hE4 hE5 hE6 hE7
        have HE4 := Lib.hid hE4
        have HE5 := Lib.hid hE5
        have HE6 := Lib.hid hE6
        have HE7 := Lib.hid hE7
        clear hE4 hE5 hE6 hE7
        go_wp2_with fail
        go_at_call 90
        refine (scalar_any vn ve true wr).mono ?_
        rintro e w5 ⟨rfl, hb5⟩
        have N5 := Lib.hid (HB0.out.trans (hb5.mono (by omega)))
        have r5 := R1.out.call hb5
        have HT5 := Lib.hid (HTW.out.below (hb5.mono (B' := 1) (by omega)) (by omega))
        have hz5 := hb5.size
        have z5 : w.heap.size + 1 < w5.heap.size := by omega
        have q4 : w5.cell? ⟨w.heap.size + 1, 4, none⟩ = some (.int .i64 un) := r5.cell 4
        have q5 : w5.cell? ⟨w.heap.size + 1, 5, none⟩ = some (.int .i64 ue) := r5.cell 5
        have R5 := Lib.hid r5
        clear r5 hb5 q0 q2 q3 hlt hbs1
        by_cases h4 : scalE vn ve true = 0
        · rw [h4, errV_0]
          have H4 := Lib.hid h4
          clear h4
          go_wp2_with fail
          go_at_call 90
          refine (scalar_any un ue true w5).mono ?_
          rintro e w6 ⟨rfl, hb6⟩
          have N6 := Lib.hid (N5.out.trans (hb6.mono (by omega)))
          have r6 := R5.out.call hb6
          have HT6 := Lib.hid (HT5.out.below (hb6.mono (B' := 1) (by omega)) (by omega))
          have hz6 := hb6.size
          have z6 : w.heap.size + 1 < w6.heap.size := by omega
          have q2 : w6.cell? ⟨w.heap.size + 1, 2, none⟩ = some (.int .i64 vn) := r6.cell 2
          have q3 : w6.cell? ⟨w.heap.size + 1, 3, none⟩ = some (.int .i64 ve) := r6.cell 3
          have q6 : w6.cell? ⟨w.heap.size + 1, 4, none⟩ = some (.int .i64 un) := r6.cell 4
          have q7 : w6.cell? ⟨w.heap.size + 1, 5, none⟩ = some (.int .i64 ue) := r6.cell 5
          clear r6 hb6 q4 q5 z5
          by_cases h5 : scalE un ue true = 0
          · rw [h5, errV_0]
            have H5 := Lib.hid h5
            clear h5
            go_wp2_with fail
            have hk : KP w6 (w.heap.size + 2) w6 := ⟨Below.refl _ _, by omega⟩
            have s1 := scOk_of H4.out
            have s2 := scOk_of H5.out
            have HS1 := Lib.hid s1
            have HS2 := Lib.hid s2
            have l1 : (canon (dyShift vn 0 ve).1.natAbs).length ≤ 50000 := dys_len s1
            have l2 : (canon (dyShift un 0 ue).1.natAbs).length ≤ 50000 := dys_len s2
            have HL1 := Lib.hid l1
            have HL2 := Lib.hid l2
            obtain ⟨C, hC⟩ : ∃ C, scCmp vn ve un ue = C := ⟨_, rfl⟩
            have HPC := Lib.hid ((pCmp_sc s1 s2).trans hC)
            have HC := Lib.hid hC
            clear s1 s2 l1 l2 hC
            go_region_held3 (fun w' => (∀ b o, b < w.heap.size + 2 → w'.cell? ⟨b, o, none⟩ = w6.cell? ⟨b, o, none⟩) ∧ KP w6 (w.heap.size + 2) w')
              (first
                | (refine KP.all ?_
                   first
                     | assumption
                     | exact hk
                     | exact hk.drew))
              (first
                | (go_at_call_of 91 (Value.agg #[.int .i64 vn, .int .i64 ve]); refine (value_any vn ve _ HS1.out (HT6.out.below (Below.refl _ w6).drew HT6.out.1)).mono ?_; (rintro e w7 ⟨v7, rfl, D7, hb7⟩; have hk7 := hk.drew.call hb7; have HT7 := (HT6.out.below (Below.refl _ w6).drew HT6.out.1).call hb7))
                | (go_at_call_of 91 (Value.agg #[.int .i64 un, .int .i64 ue]); refine (value_any un ue _ HS2.out HT7).mono ?_; (rintro e w8 ⟨v8, rfl, D8, hb8⟩; have hk8 := hk7.call hb8; have D7' := D7.below hb8 (Nat.le_refl _)))
                | (go_at_call 31; refine (pcmp_any (D7'.more hb8.size) D8 (Nat.le_refl _) HL1.out HL2.out).mono ?_; (rintro e w9 ⟨rfl, hb9⟩; have hk9 := hk8.call hb9; rw [HPC.out])))
            have N9 := Lib.hid (N6.out.trans (hk9.is.mono (by omega)))
            clear D7 D7' D8 hb7 hb8 hb9 HT7 hk7 hk8 hk9
            by_cases hc : 0 < C
            · have HE := Lib.hid (HE6.out H4.out H5.out ⟨by trivial, by rw [HC.out]; exact hc⟩)
              go_wp2_with fail
              go_ret
              exact ⟨er_n HE.out (by decide), N9.out⟩
            · have HE := Lib.hid (HE7.out H4.out H5.out (fun h => hc (by rw [← HC.out]; exact h.2)))
              go_wp2_with fail
              go_ret
              exact ⟨er_0 HE.out, N9.out⟩
          · have HE := Lib.hid (HE5.out H4.out h5)
            rw [errV_n h5]
            have H5 := Lib.hid h5
            clear h5
            go_wp2_with fail
            go_ret
            exact ⟨er_n HE.out H5.out, N6.out⟩
        · have HE := Lib.hid (HE4.out h4)
          rw [errV_n h4]
          have H4 := Lib.hid h4
          clear h4
          go_wp2_with fail
          go_ret
          exact ⟨er_n HE.out H4.out, N5.out⟩
theorem check_1 (A1 : Option Addr) (ps : List Prt) (c1 : Nat) (A2 : Option Addr) (bs : List Bk) (c2 : Nat) (A3 : Option Addr) (os : List Int) (c3 : Nat) (A : Option Addr) (args : List Int) (cap : Nat) (vn ve un ue : Int) (m : Nat) (w : World)
    (hk0 : ¬ arityM 1 < 0) (hk1 : ((args.length : Nat) : Int) = arityM 1) (hl : args.length ≤ 1000000) (hl1 : ps.length ≤ 1000000) (hl2 : bs.length ≤ 1000000) (hm : m ≤ w.heap.size) (ha : CellsAt w m A (ints args)) (ht : TabAt w) :
    Calls Tryd.prog 52 #[.agg #[.slice A1 ps.length c1, .slice A2 bs.length c2, .slice A3 os.length c3], .agg #[.int .i64 1, .slice A args.length cap, .int .i64 vn, .int .i64 ve, .int .i64 un, .int .i64 ue]] w fun e w' => e = .returned (errV (blkErr ps.length bs.length ⟨1, A, args, cap, vn, ve, un, ue⟩)) ∧ Below w.heap.size w w' := by
  have b0 : Below w.heap.size w ((w.alloc (.cells #[.slice A1 ps.length c1, .slice A2 bs.length c2, .slice A3 os.length c3] 41)).alloc (.cells #[.int .i64 1, .slice A args.length cap, .int .i64 vn, .int .i64 ve, .int .i64 un, .int .i64 ue] 66)) := ext_alloc (al_ _ _) _
  have r0 := (RowD.new_ w [.slice A1 ps.length c1, .slice A2 bs.length c2, .slice A3 os.length c3] 41).call (al_ _ (.cells #[.int .i64 1, .slice A args.length cap, .int .i64 vn, .int .i64 ve, .int .i64 un, .int .i64 ue] 66))
  have r1 := RowD.new_ (w.alloc (.cells #[.slice A1 ps.length c1, .slice A2 bs.length c2, .slice A3 os.length c3] 41)) [.int .i64 1, .slice A args.length cap, .int .i64 vn, .int .i64 ve, .int .i64 un, .int .i64 ue] 66
  rw [show (w.alloc (.cells #[.slice A1 ps.length c1, .slice A2 bs.length c2, .slice A3 os.length c3] 41)).heap.size = w.heap.size + 1 by simp] at r1
  have HT := Lib.hid ht
  have HA := Lib.hid ha
  have HK0 := Lib.hid hk0
  have HK1 := Lib.hid hk1
  obtain ⟨K, hK⟩ : ∃ K, arityM 1 = K := ⟨_, rfl⟩
  have HKK := Lib.hid hK
  have hne : (((args.length : Nat) : Int) != K) = false := by rw [hk1, hK]; simp
  have hkk : 0 ≤ K := by omega
  clear ht ha hk0 hk1 hK
  go_enter Tryd.func52, Tryd.ntmps52
  have HM : Hid (mostM ps.length bs.length 1 = bs.length) := Lib.hid (rfl)
  have HV : Hid (valU 1 = true) := Lib.hid (by decide)
  have HU : Hid (clipU 1 = false) := Lib.hid (by decide)
  go_wp2_with (go_at_call 89; refine (arity_any _ _).mono ?_; rintro e w1 ⟨rfl, rfl⟩; rw [HKK.out])
  obtain ⟨W, hW⟩ : ∃ W, W = ((w.alloc (.cells #[.slice A1 ps.length c1, .slice A2 bs.length c2, .slice A3 os.length c3] 41)).alloc (.cells #[.int .i64 1, .slice A args.length cap, .int .i64 vn, .int .i64 ve, .int .i64 un, .int .i64 ue] 66)) := ⟨_, rfl⟩
  rw [← hW]
  rw [← hW] at r0 r1 b0
  have hWs : W.heap.size = w.heap.size + 2 := by rw [hW]; simp
  clear hW
  have HTW := Lib.hid (HT.out.below b0 HT.out.1)
  have q0 : W.cell? ⟨w.heap.size + 1, 0, none⟩ = some (.int .i64 1) := r1.cell 0
  have q2 : W.cell? ⟨w.heap.size + 1, 2, none⟩ = some (.int .i64 vn) := r1.cell 2
  have q3 : W.cell? ⟨w.heap.size + 1, 3, none⟩ = some (.int .i64 ve) := r1.cell 3
  have HB0 := Lib.hid b0
  have R1 := Lib.hid r1
  have HA2 := Lib.hid (HA.out.below b0 hm)
  have hbs1 : (W.heap.size : Int) = w.heap.size + 2 := by omega
  clear r0 r1 b0
  go_loopw [36] (fun i wr => argRel args bs.length W i wr) (fun i _ => args.length - (intOf i).toNat)
  case atStart => exact ⟨0, Nat.zero_le _, rfl, rfl, rfl⟩
  case round =>
    as_aux_lemma =>
      obtain ⟨t, ht, rfl, hf, rfl⟩ := hrel
      have HF := Lib.hid hf
      clear hf
      by_cases hlt : t < args.length
      · obtain ⟨ab, ao, z, rfl, hab, hab2, hz, hzc⟩ := HA2.out.int_ hlt
        have HZ := Lib.hid hz
        clear hz
        by_cases h0 : z < 0
        · have hE := Lib.hid (be3 (np := ps.length) (nb := bs.length) (b := ⟨1, some ⟨ab, ao, none⟩, args, cap, vn, ve, un, ue⟩) (Int.not_lt.2 HK0.out) HK1.out HM.out (out_hit HZ.out (by omega) HF.out))
          go_wp2_with fail
          go_ret
          exact ⟨er_n (k := 10) hE.out (by decide), HB0.out⟩
        · have h1 : 0 ≤ z := by omega
          clear h0
          by_cases h2 : z < (bs.length : Int)
          · have HZ2 := Lib.hid (out_step HZ.out ⟨h1, h2⟩ HF.out)
            go_wp2_with fail
            all_goals try (exfalso; omega)
            exact ⟨⟨t + 1, by omega, by go_num, HZ2.out, rfl⟩, by simp [intOf]; omega⟩
          · have hE := Lib.hid (be3 (np := ps.length) (nb := bs.length) (b := ⟨1, some ⟨ab, ao, none⟩, args, cap, vn, ve, un, ue⟩) (Int.not_lt.2 HK0.out) HK1.out HM.out (out_hit HZ.out (by omega) HF.out))
            have h3 : (bs.length : Int) ≤ z := by omega
            clear h2
            go_wp2_with fail
            all_goals try (exfalso; omega)
            go_ret
            exact ⟨er_n (k := 10) hE.out (by decide), HB0.out⟩
      · have P1 := Lib.hid (fe_all (k := t) (by rw [List.length_map]; omega) HF.out)
        clear HF
        have hE4 := fun h => be4 (np := ps.length) (nb := bs.length) (b := ⟨1, A, args, cap, vn, ve, un, ue⟩) (Int.not_lt.2 HK0.out) HK1.out HM.out P1.out HV.out h
        have hE5 := fun h4 h => be5 (np := ps.length) (nb := bs.length) (b := ⟨1, A, args, cap, vn, ve, un, ue⟩) (Int.not_lt.2 HK0.out) HK1.out HM.out P1.out HV.out h4 HU.out h
        have hE6 := fun h4 h5 h => be6 (np := ps.length) (nb := bs.length) (b := ⟨1, A, args, cap, vn, ve, un, ue⟩) (Int.not_lt.2 HK0.out) HK1.out HM.out P1.out HV.out h4 HU.out h5 h
        have hE7 := fun h4 h5 h => be7 (np := ps.length) (nb := bs.length) (b := ⟨1, A, args, cap, vn, ve, un, ue⟩) (Int.not_lt.2 HK0.out) HK1.out HM.out P1.out HV.out h4 HU.out h5 h
        dsimp only at hE4 hE5 hE6 hE7
        have HE4 := Lib.hid hE4
        have HE5 := Lib.hid hE5
        have HE6 := Lib.hid hE6
        have HE7 := Lib.hid hE7
        clear hE4 hE5 hE6 hE7
        go_wp2_with fail
        go_at_call 90
        refine (scalar_any vn ve true wr).mono ?_
        rintro e w5 ⟨rfl, hb5⟩
        have N5 := Lib.hid (HB0.out.trans (hb5.mono (by omega)))
        have r5 := R1.out.call hb5
        have HT5 := Lib.hid (HTW.out.below (hb5.mono (B' := 1) (by omega)) (by omega))
        have hz5 := hb5.size
        have z5 : w.heap.size + 1 < w5.heap.size := by omega
        have q4 : w5.cell? ⟨w.heap.size + 1, 4, none⟩ = some (.int .i64 un) := r5.cell 4
        have q5 : w5.cell? ⟨w.heap.size + 1, 5, none⟩ = some (.int .i64 ue) := r5.cell 5
        have R5 := Lib.hid r5
        clear r5 hb5 q0 q2 q3 hlt hbs1
        by_cases h4 : scalE vn ve true = 0
        · rw [h4, errV_0]
          have H4 := Lib.hid h4
          clear h4
          go_wp2_with fail
          go_at_call 90
          refine (scalar_any un ue false w5).mono ?_
          rintro e w6 ⟨rfl, hb6⟩
          have N6 := Lib.hid (N5.out.trans (hb6.mono (by omega)))
          have r6 := R5.out.call hb6
          have HT6 := Lib.hid (HT5.out.below (hb6.mono (B' := 1) (by omega)) (by omega))
          have hz6 := hb6.size
          have z6 : w.heap.size + 1 < w6.heap.size := by omega
          have q2 : w6.cell? ⟨w.heap.size + 1, 2, none⟩ = some (.int .i64 vn) := r6.cell 2
          have q3 : w6.cell? ⟨w.heap.size + 1, 3, none⟩ = some (.int .i64 ve) := r6.cell 3
          have q6 : w6.cell? ⟨w.heap.size + 1, 4, none⟩ = some (.int .i64 un) := r6.cell 4
          have q7 : w6.cell? ⟨w.heap.size + 1, 5, none⟩ = some (.int .i64 ue) := r6.cell 5
          clear r6 hb6 q4 q5 z5
          by_cases h5 : scalE un ue false = 0
          · rw [h5, errV_0]
            have H5 := Lib.hid h5
            clear h5
            go_wp2_with fail
            go_quiet (fail)
            go_wp2_with fail
            go_ret
            exact ⟨er_0 (HE7.out H4.out H5.out (fun h => by cases h.1)), by repeat (first | exact N6.out | refine ext_drew ?_ | refine ext_drewN ?_ _)⟩
          · have HE := Lib.hid (HE5.out H4.out h5)
            rw [errV_n h5]
            have H5 := Lib.hid h5
            clear h5
            go_wp2_with fail
            go_ret
            exact ⟨er_n HE.out H5.out, N6.out⟩
        · have HE := Lib.hid (HE4.out h4)
          rw [errV_n h4]
          have H4 := Lib.hid h4
          clear h4
          go_wp2_with fail
          go_ret
          exact ⟨er_n HE.out H4.out, N5.out⟩
theorem check_2 (A1 : Option Addr) (ps : List Prt) (c1 : Nat) (A2 : Option Addr) (bs : List Bk) (c2 : Nat) (A3 : Option Addr) (os : List Int) (c3 : Nat) (A : Option Addr) (args : List Int) (cap : Nat) (vn ve un ue : Int) (m : Nat) (w : World)
    (hk0 : ¬ arityM 2 < 0) (hk1 : ((args.length : Nat) : Int) = arityM 2) (hl : args.length ≤ 1000000) (hl1 : ps.length ≤ 1000000) (hl2 : bs.length ≤ 1000000) (hm : m ≤ w.heap.size) (ha : CellsAt w m A (ints args)) (ht : TabAt w) :
    Calls Tryd.prog 52 #[.agg #[.slice A1 ps.length c1, .slice A2 bs.length c2, .slice A3 os.length c3], .agg #[.int .i64 2, .slice A args.length cap, .int .i64 vn, .int .i64 ve, .int .i64 un, .int .i64 ue]] w fun e w' => e = .returned (errV (blkErr ps.length bs.length ⟨2, A, args, cap, vn, ve, un, ue⟩)) ∧ Below w.heap.size w w' := by
  have b0 : Below w.heap.size w ((w.alloc (.cells #[.slice A1 ps.length c1, .slice A2 bs.length c2, .slice A3 os.length c3] 41)).alloc (.cells #[.int .i64 2, .slice A args.length cap, .int .i64 vn, .int .i64 ve, .int .i64 un, .int .i64 ue] 66)) := ext_alloc (al_ _ _) _
  have r0 := (RowD.new_ w [.slice A1 ps.length c1, .slice A2 bs.length c2, .slice A3 os.length c3] 41).call (al_ _ (.cells #[.int .i64 2, .slice A args.length cap, .int .i64 vn, .int .i64 ve, .int .i64 un, .int .i64 ue] 66))
  have r1 := RowD.new_ (w.alloc (.cells #[.slice A1 ps.length c1, .slice A2 bs.length c2, .slice A3 os.length c3] 41)) [.int .i64 2, .slice A args.length cap, .int .i64 vn, .int .i64 ve, .int .i64 un, .int .i64 ue] 66
  rw [show (w.alloc (.cells #[.slice A1 ps.length c1, .slice A2 bs.length c2, .slice A3 os.length c3] 41)).heap.size = w.heap.size + 1 by simp] at r1
  have HT := Lib.hid ht
  have HA := Lib.hid ha
  have HK0 := Lib.hid hk0
  have HK1 := Lib.hid hk1
  obtain ⟨K, hK⟩ : ∃ K, arityM 2 = K := ⟨_, rfl⟩
  have HKK := Lib.hid hK
  have hne : (((args.length : Nat) : Int) != K) = false := by rw [hk1, hK]; simp
  have hkk : 0 ≤ K := by omega
  clear ht ha hk0 hk1 hK
  go_enter Tryd.func52, Tryd.ntmps52
  have HM : Hid (mostM ps.length bs.length 2 = bs.length) := Lib.hid (rfl)
  have HV : Hid (valU 2 = true) := Lib.hid (by decide)
  have HU : Hid (clipU 2 = false) := Lib.hid (by decide)
  go_wp2_with (go_at_call 89; refine (arity_any _ _).mono ?_; rintro e w1 ⟨rfl, rfl⟩; rw [HKK.out])
  obtain ⟨W, hW⟩ : ∃ W, W = ((w.alloc (.cells #[.slice A1 ps.length c1, .slice A2 bs.length c2, .slice A3 os.length c3] 41)).alloc (.cells #[.int .i64 2, .slice A args.length cap, .int .i64 vn, .int .i64 ve, .int .i64 un, .int .i64 ue] 66)) := ⟨_, rfl⟩
  rw [← hW]
  rw [← hW] at r0 r1 b0
  have hWs : W.heap.size = w.heap.size + 2 := by rw [hW]; simp
  clear hW
  have HTW := Lib.hid (HT.out.below b0 HT.out.1)
  have q0 : W.cell? ⟨w.heap.size + 1, 0, none⟩ = some (.int .i64 2) := r1.cell 0
  have q2 : W.cell? ⟨w.heap.size + 1, 2, none⟩ = some (.int .i64 vn) := r1.cell 2
  have q3 : W.cell? ⟨w.heap.size + 1, 3, none⟩ = some (.int .i64 ve) := r1.cell 3
  have HB0 := Lib.hid b0
  have R1 := Lib.hid r1
  have HA2 := Lib.hid (HA.out.below b0 hm)
  have hbs1 : (W.heap.size : Int) = w.heap.size + 2 := by omega
  clear r0 r1 b0
  go_loopw [36] (fun i wr => argRel args bs.length W i wr) (fun i _ => args.length - (intOf i).toNat)
  case atStart => exact ⟨0, Nat.zero_le _, rfl, rfl, rfl⟩
  case round =>
    as_aux_lemma =>
      obtain ⟨t, ht, rfl, hf, rfl⟩ := hrel
      have HF := Lib.hid hf
      clear hf
      by_cases hlt : t < args.length
      · obtain ⟨ab, ao, z, rfl, hab, hab2, hz, hzc⟩ := HA2.out.int_ hlt
        have HZ := Lib.hid hz
        clear hz
        by_cases h0 : z < 0
        · have hE := Lib.hid (be3 (np := ps.length) (nb := bs.length) (b := ⟨2, some ⟨ab, ao, none⟩, args, cap, vn, ve, un, ue⟩) (Int.not_lt.2 HK0.out) HK1.out HM.out (out_hit HZ.out (by omega) HF.out))
          go_wp2_with fail
          go_ret
          exact ⟨er_n (k := 10) hE.out (by decide), HB0.out⟩
        · have h1 : 0 ≤ z := by omega
          clear h0
          by_cases h2 : z < (bs.length : Int)
          · have HZ2 := Lib.hid (out_step HZ.out ⟨h1, h2⟩ HF.out)
            go_wp2_with fail
            all_goals try (exfalso; omega)
            exact ⟨⟨t + 1, by omega, by go_num, HZ2.out, rfl⟩, by simp [intOf]; omega⟩
          · have hE := Lib.hid (be3 (np := ps.length) (nb := bs.length) (b := ⟨2, some ⟨ab, ao, none⟩, args, cap, vn, ve, un, ue⟩) (Int.not_lt.2 HK0.out) HK1.out HM.out (out_hit HZ.out (by omega) HF.out))
            have h3 : (bs.length : Int) ≤ z := by omega
            clear h2
            go_wp2_with fail
            all_goals try (exfalso; omega)
            go_ret
            exact ⟨er_n (k := 10) hE.out (by decide), HB0.out⟩
      · have P1 := Lib.hid (fe_all (k := t) (by rw [List.length_map]; omega) HF.out)
        clear HF
        have hE4 := fun h => be4 (np := ps.length) (nb := bs.length) (b := ⟨2, A, args, cap, vn, ve, un, ue⟩) (Int.not_lt.2 HK0.out) HK1.out HM.out P1.out HV.out h
        have hE5 := fun h4 h => be5 (np := ps.length) (nb := bs.length) (b := ⟨2, A, args, cap, vn, ve, un, ue⟩) (Int.not_lt.2 HK0.out) HK1.out HM.out P1.out HV.out h4 HU.out h
        have hE6 := fun h4 h5 h => be6 (np := ps.length) (nb := bs.length) (b := ⟨2, A, args, cap, vn, ve, un, ue⟩) (Int.not_lt.2 HK0.out) HK1.out HM.out P1.out HV.out h4 HU.out h5 h
        have hE7 := fun h4 h5 h => be7 (np := ps.length) (nb := bs.length) (b := ⟨2, A, args, cap, vn, ve, un, ue⟩) (Int.not_lt.2 HK0.out) HK1.out HM.out P1.out HV.out h4 HU.out h5 h
        dsimp only at hE4 hE5 hE6 hE7
        have HE4 := Lib.hid hE4
        have HE5 := Lib.hid hE5
        have HE6 := Lib.hid hE6
        have HE7 := Lib.hid hE7
        clear hE4 hE5 hE6 hE7
        go_wp2_with fail
        go_at_call 90
        refine (scalar_any vn ve true wr).mono ?_
        rintro e w5 ⟨rfl, hb5⟩
        have N5 := Lib.hid (HB0.out.trans (hb5.mono (by omega)))
        have r5 := R1.out.call hb5
        have HT5 := Lib.hid (HTW.out.below (hb5.mono (B' := 1) (by omega)) (by omega))
        have hz5 := hb5.size
        have z5 : w.heap.size + 1 < w5.heap.size := by omega
        have q4 : w5.cell? ⟨w.heap.size + 1, 4, none⟩ = some (.int .i64 un) := r5.cell 4
        have q5 : w5.cell? ⟨w.heap.size + 1, 5, none⟩ = some (.int .i64 ue) := r5.cell 5
        have R5 := Lib.hid r5
        clear r5 hb5 q0 q2 q3 hlt hbs1
        by_cases h4 : scalE vn ve true = 0
        · rw [h4, errV_0]
          have H4 := Lib.hid h4
          clear h4
          go_wp2_with fail
          go_at_call 90
          refine (scalar_any un ue false w5).mono ?_
          rintro e w6 ⟨rfl, hb6⟩
          have N6 := Lib.hid (N5.out.trans (hb6.mono (by omega)))
          have r6 := R5.out.call hb6
          have HT6 := Lib.hid (HT5.out.below (hb6.mono (B' := 1) (by omega)) (by omega))
          have hz6 := hb6.size
          have z6 : w.heap.size + 1 < w6.heap.size := by omega
          have q2 : w6.cell? ⟨w.heap.size + 1, 2, none⟩ = some (.int .i64 vn) := r6.cell 2
          have q3 : w6.cell? ⟨w.heap.size + 1, 3, none⟩ = some (.int .i64 ve) := r6.cell 3
          have q6 : w6.cell? ⟨w.heap.size + 1, 4, none⟩ = some (.int .i64 un) := r6.cell 4
          have q7 : w6.cell? ⟨w.heap.size + 1, 5, none⟩ = some (.int .i64 ue) := r6.cell 5
          clear r6 hb6 q4 q5 z5
          by_cases h5 : scalE un ue false = 0
          · rw [h5, errV_0]
            have H5 := Lib.hid h5
            clear h5
            go_wp2_with fail
            go_quiet (fail)
            go_wp2_with fail
            go_ret
            exact ⟨er_0 (HE7.out H4.out H5.out (fun h => by cases h.1)), by repeat (first | exact N6.out | refine ext_drew ?_ | refine ext_drewN ?_ _)⟩
          · have HE := Lib.hid (HE5.out H4.out h5)
            rw [errV_n h5]
            have H5 := Lib.hid h5
            clear h5
            go_wp2_with fail
            go_ret
            exact ⟨er_n HE.out H5.out, N6.out⟩
        · have HE := Lib.hid (HE4.out h4)
          rw [errV_n h4]
          have H4 := Lib.hid h4
          clear h4
          go_wp2_with fail
          go_ret
          exact ⟨er_n HE.out H4.out, N5.out⟩
theorem check_6 (A1 : Option Addr) (ps : List Prt) (c1 : Nat) (A2 : Option Addr) (bs : List Bk) (c2 : Nat) (A3 : Option Addr) (os : List Int) (c3 : Nat) (A : Option Addr) (args : List Int) (cap : Nat) (vn ve un ue : Int) (m : Nat) (w : World)
    (hk0 : ¬ arityM 6 < 0) (hk1 : ((args.length : Nat) : Int) = arityM 6) (hl : args.length ≤ 1000000) (hl1 : ps.length ≤ 1000000) (hl2 : bs.length ≤ 1000000) (hm : m ≤ w.heap.size) (ha : CellsAt w m A (ints args)) (ht : TabAt w) :
    Calls Tryd.prog 52 #[.agg #[.slice A1 ps.length c1, .slice A2 bs.length c2, .slice A3 os.length c3], .agg #[.int .i64 6, .slice A args.length cap, .int .i64 vn, .int .i64 ve, .int .i64 un, .int .i64 ue]] w fun e w' => e = .returned (errV (blkErr ps.length bs.length ⟨6, A, args, cap, vn, ve, un, ue⟩)) ∧ Below w.heap.size w w' := by
  have b0 : Below w.heap.size w ((w.alloc (.cells #[.slice A1 ps.length c1, .slice A2 bs.length c2, .slice A3 os.length c3] 41)).alloc (.cells #[.int .i64 6, .slice A args.length cap, .int .i64 vn, .int .i64 ve, .int .i64 un, .int .i64 ue] 66)) := ext_alloc (al_ _ _) _
  have r0 := (RowD.new_ w [.slice A1 ps.length c1, .slice A2 bs.length c2, .slice A3 os.length c3] 41).call (al_ _ (.cells #[.int .i64 6, .slice A args.length cap, .int .i64 vn, .int .i64 ve, .int .i64 un, .int .i64 ue] 66))
  have r1 := RowD.new_ (w.alloc (.cells #[.slice A1 ps.length c1, .slice A2 bs.length c2, .slice A3 os.length c3] 41)) [.int .i64 6, .slice A args.length cap, .int .i64 vn, .int .i64 ve, .int .i64 un, .int .i64 ue] 66
  rw [show (w.alloc (.cells #[.slice A1 ps.length c1, .slice A2 bs.length c2, .slice A3 os.length c3] 41)).heap.size = w.heap.size + 1 by simp] at r1
  have HT := Lib.hid ht
  have HA := Lib.hid ha
  have HK0 := Lib.hid hk0
  have HK1 := Lib.hid hk1
  obtain ⟨K, hK⟩ : ∃ K, arityM 6 = K := ⟨_, rfl⟩
  have HKK := Lib.hid hK
  have hne : (((args.length : Nat) : Int) != K) = false := by rw [hk1, hK]; simp
  have hkk : 0 ≤ K := by omega
  clear ht ha hk0 hk1 hK
  go_enter Tryd.func52, Tryd.ntmps52
  have HM : Hid (mostM ps.length bs.length 6 = bs.length) := Lib.hid (rfl)
  have HV : Hid (valU 6 = true) := Lib.hid (by decide)
  have HU : Hid (clipU 6 = false) := Lib.hid (by decide)
  go_wp2_with (go_at_call 89; refine (arity_any _ _).mono ?_; rintro e w1 ⟨rfl, rfl⟩; rw [HKK.out])
  obtain ⟨W, hW⟩ : ∃ W, W = ((w.alloc (.cells #[.slice A1 ps.length c1, .slice A2 bs.length c2, .slice A3 os.length c3] 41)).alloc (.cells #[.int .i64 6, .slice A args.length cap, .int .i64 vn, .int .i64 ve, .int .i64 un, .int .i64 ue] 66)) := ⟨_, rfl⟩
  rw [← hW]
  rw [← hW] at r0 r1 b0
  have hWs : W.heap.size = w.heap.size + 2 := by rw [hW]; simp
  clear hW
  have HTW := Lib.hid (HT.out.below b0 HT.out.1)
  have q0 : W.cell? ⟨w.heap.size + 1, 0, none⟩ = some (.int .i64 6) := r1.cell 0
  have q2 : W.cell? ⟨w.heap.size + 1, 2, none⟩ = some (.int .i64 vn) := r1.cell 2
  have q3 : W.cell? ⟨w.heap.size + 1, 3, none⟩ = some (.int .i64 ve) := r1.cell 3
  have HB0 := Lib.hid b0
  have R1 := Lib.hid r1
  have HA2 := Lib.hid (HA.out.below b0 hm)
  have hbs1 : (W.heap.size : Int) = w.heap.size + 2 := by omega
  clear r0 r1 b0
  go_loopw [36] (fun i wr => argRel args bs.length W i wr) (fun i _ => args.length - (intOf i).toNat)
  case atStart => exact ⟨0, Nat.zero_le _, rfl, rfl, rfl⟩
  case round =>
    as_aux_lemma =>
      obtain ⟨t, ht, rfl, hf, rfl⟩ := hrel
      have HF := Lib.hid hf
      clear hf
      by_cases hlt : t < args.length
      · obtain ⟨ab, ao, z, rfl, hab, hab2, hz, hzc⟩ := HA2.out.int_ hlt
        have HZ := Lib.hid hz
        clear hz
        by_cases h0 : z < 0
        · have hE := Lib.hid (be3 (np := ps.length) (nb := bs.length) (b := ⟨6, some ⟨ab, ao, none⟩, args, cap, vn, ve, un, ue⟩) (Int.not_lt.2 HK0.out) HK1.out HM.out (out_hit HZ.out (by omega) HF.out))
          go_wp2_with fail
          go_ret
          exact ⟨er_n (k := 10) hE.out (by decide), HB0.out⟩
        · have h1 : 0 ≤ z := by omega
          clear h0
          by_cases h2 : z < (bs.length : Int)
          · have HZ2 := Lib.hid (out_step HZ.out ⟨h1, h2⟩ HF.out)
            go_wp2_with fail
            all_goals try (exfalso; omega)
            exact ⟨⟨t + 1, by omega, by go_num, HZ2.out, rfl⟩, by simp [intOf]; omega⟩
          · have hE := Lib.hid (be3 (np := ps.length) (nb := bs.length) (b := ⟨6, some ⟨ab, ao, none⟩, args, cap, vn, ve, un, ue⟩) (Int.not_lt.2 HK0.out) HK1.out HM.out (out_hit HZ.out (by omega) HF.out))
            have h3 : (bs.length : Int) ≤ z := by omega
            clear h2
            go_wp2_with fail
            all_goals try (exfalso; omega)
            go_ret
            exact ⟨er_n (k := 10) hE.out (by decide), HB0.out⟩
      · have P1 := Lib.hid (fe_all (k := t) (by rw [List.length_map]; omega) HF.out)
        clear HF
        have hE4 := fun h => be4 (np := ps.length) (nb := bs.length) (b := ⟨6, A, args, cap, vn, ve, un, ue⟩) (Int.not_lt.2 HK0.out) HK1.out HM.out P1.out HV.out h
        have hE5 := fun h4 h => be5 (np := ps.length) (nb := bs.length) (b := ⟨6, A, args, cap, vn, ve, un, ue⟩) (Int.not_lt.2 HK0.out) HK1.out HM.out P1.out HV.out h4 HU.out h
        have hE6 := fun h4 h5 h => be6 (np := ps.length) (nb := bs.length) (b := ⟨6, A, args, cap, vn, ve, un, ue⟩) (Int.not_lt.2 HK0.out) HK1.out HM.out P1.out HV.out h4 HU.out h5 h
        have hE7 := fun h4 h5 h => be7 (np := ps.length) (nb := bs.length) (b := ⟨6, A, args, cap, vn, ve, un, ue⟩) (Int.not_lt.2 HK0.out) HK1.out HM.out P1.out HV.out h4 HU.out h5 h
        dsimp only at hE4 hE5 hE6 hE7
        have HE4 := Lib.hid hE4
        have HE5 := Lib.hid hE5
        have HE6 := Lib.hid hE6
        have HE7 := Lib.hid hE7
        clear hE4 hE5 hE6 hE7
        go_wp2_with fail
        go_at_call 90
        refine (scalar_any vn ve true wr).mono ?_
        rintro e w5 ⟨rfl, hb5⟩
        have N5 := Lib.hid (HB0.out.trans (hb5.mono (by omega)))
        have r5 := R1.out.call hb5
        have HT5 := Lib.hid (HTW.out.below (hb5.mono (B' := 1) (by omega)) (by omega))
        have hz5 := hb5.size
        have z5 : w.heap.size + 1 < w5.heap.size := by omega
        have q4 : w5.cell? ⟨w.heap.size + 1, 4, none⟩ = some (.int .i64 un) := r5.cell 4
        have q5 : w5.cell? ⟨w.heap.size + 1, 5, none⟩ = some (.int .i64 ue) := r5.cell 5
        have R5 := Lib.hid r5
        clear r5 hb5 q0 q2 q3 hlt hbs1
        by_cases h4 : scalE vn ve true = 0
        · rw [h4, errV_0]
          have H4 := Lib.hid h4
          clear h4
          go_wp2_with fail
          go_at_call 90
          refine (scalar_any un ue false w5).mono ?_
          rintro e w6 ⟨rfl, hb6⟩
          have N6 := Lib.hid (N5.out.trans (hb6.mono (by omega)))
          have r6 := R5.out.call hb6
          have HT6 := Lib.hid (HT5.out.below (hb6.mono (B' := 1) (by omega)) (by omega))
          have hz6 := hb6.size
          have z6 : w.heap.size + 1 < w6.heap.size := by omega
          have q2 : w6.cell? ⟨w.heap.size + 1, 2, none⟩ = some (.int .i64 vn) := r6.cell 2
          have q3 : w6.cell? ⟨w.heap.size + 1, 3, none⟩ = some (.int .i64 ve) := r6.cell 3
          have q6 : w6.cell? ⟨w.heap.size + 1, 4, none⟩ = some (.int .i64 un) := r6.cell 4
          have q7 : w6.cell? ⟨w.heap.size + 1, 5, none⟩ = some (.int .i64 ue) := r6.cell 5
          clear r6 hb6 q4 q5 z5
          by_cases h5 : scalE un ue false = 0
          · rw [h5, errV_0]
            have H5 := Lib.hid h5
            clear h5
            go_wp2_with fail
            go_quiet (fail)
            go_wp2_with fail
            go_ret
            exact ⟨er_0 (HE7.out H4.out H5.out (fun h => by cases h.1)), by repeat (first | exact N6.out | refine ext_drew ?_ | refine ext_drewN ?_ _)⟩
          · have HE := Lib.hid (HE5.out H4.out h5)
            rw [errV_n h5]
            have H5 := Lib.hid h5
            clear h5
            go_wp2_with fail
            go_ret
            exact ⟨er_n HE.out H5.out, N6.out⟩
        · have HE := Lib.hid (HE4.out h4)
          rw [errV_n h4]
          have H4 := Lib.hid h4
          clear h4
          go_wp2_with fail
          go_ret
          exact ⟨er_n HE.out H4.out, N5.out⟩
theorem check_x (A1 : Option Addr) (ps : List Prt) (c1 : Nat) (A2 : Option Addr) (bs : List Bk) (c2 : Nat) (A3 : Option Addr) (os : List Int) (c3 : Nat) (kind : Int) (A : Option Addr) (args : List Int) (cap : Nat) (vn ve un ue : Int) (m : Nat) (w : World) (h0 : ¬ kind = 0) (h1 : ¬ kind = 1) (h2 : ¬ kind = 2) (h6 : ¬ kind = 6) (h11 : ¬ kind = 11)
    (hk0 : ¬ arityM kind < 0) (hk1 : ((args.length : Nat) : Int) = arityM kind) (hl : args.length ≤ 1000000) (hl1 : ps.length ≤ 1000000) (hl2 : bs.length ≤ 1000000) (hm : m ≤ w.heap.size) (ha : CellsAt w m A (ints args)) (ht : TabAt w) :
    Calls Tryd.prog 52 #[.agg #[.slice A1 ps.length c1, .slice A2 bs.length c2, .slice A3 os.length c3], .agg #[.int .i64 kind, .slice A args.length cap, .int .i64 vn, .int .i64 ve, .int .i64 un, .int .i64 ue]] w fun e w' => e = .returned (errV (blkErr ps.length bs.length ⟨kind, A, args, cap, vn, ve, un, ue⟩)) ∧ Below w.heap.size w w' := by
  have b0 : Below w.heap.size w ((w.alloc (.cells #[.slice A1 ps.length c1, .slice A2 bs.length c2, .slice A3 os.length c3] 41)).alloc (.cells #[.int .i64 kind, .slice A args.length cap, .int .i64 vn, .int .i64 ve, .int .i64 un, .int .i64 ue] 66)) := ext_alloc (al_ _ _) _
  have r0 := (RowD.new_ w [.slice A1 ps.length c1, .slice A2 bs.length c2, .slice A3 os.length c3] 41).call (al_ _ (.cells #[.int .i64 kind, .slice A args.length cap, .int .i64 vn, .int .i64 ve, .int .i64 un, .int .i64 ue] 66))
  have r1 := RowD.new_ (w.alloc (.cells #[.slice A1 ps.length c1, .slice A2 bs.length c2, .slice A3 os.length c3] 41)) [.int .i64 kind, .slice A args.length cap, .int .i64 vn, .int .i64 ve, .int .i64 un, .int .i64 ue] 66
  rw [show (w.alloc (.cells #[.slice A1 ps.length c1, .slice A2 bs.length c2, .slice A3 os.length c3] 41)).heap.size = w.heap.size + 1 by simp] at r1
  have HT := Lib.hid ht
  have HA := Lib.hid ha
  have HK0 := Lib.hid hk0
  have HK1 := Lib.hid hk1
  obtain ⟨K, hK⟩ : ∃ K, arityM kind = K := ⟨_, rfl⟩
  have HKK := Lib.hid hK
  have hne : (((args.length : Nat) : Int) != K) = false := by rw [hk1, hK]; simp
  have hkk : 0 ≤ K := by omega
  clear ht ha hk0 hk1 hK
  have e0 : (kind == 0) = false := by simpa using h0
  have e1 : (kind == 1) = false := by simpa using h1
  have e2 : (kind == 2) = false := by simpa using h2
  have e6 : (kind == 6) = false := by simpa using h6
  have e11 : (kind == 11) = false := by simpa using h11
  go_enter Tryd.func52, Tryd.ntmps52
  have HM : Hid (mostM ps.length bs.length kind = bs.length) := Lib.hid (if_neg h0)
  have HV : Hid (valU kind = false) := Lib.hid (by unfold valU; rw [e11, e1, e2, e6]; rfl)
  have HU : Hid (clipU kind = false) := Lib.hid (e11)
  clear h0 h1 h2 h6 h11
  go_wp2_with (go_at_call 89; refine (arity_any _ _).mono ?_; rintro e w1 ⟨rfl, rfl⟩; rw [HKK.out])
  obtain ⟨W, hW⟩ : ∃ W, W = ((w.alloc (.cells #[.slice A1 ps.length c1, .slice A2 bs.length c2, .slice A3 os.length c3] 41)).alloc (.cells #[.int .i64 kind, .slice A args.length cap, .int .i64 vn, .int .i64 ve, .int .i64 un, .int .i64 ue] 66)) := ⟨_, rfl⟩
  rw [← hW]
  rw [← hW] at r0 r1 b0
  have hWs : W.heap.size = w.heap.size + 2 := by rw [hW]; simp
  clear hW
  have HTW := Lib.hid (HT.out.below b0 HT.out.1)
  have q0 : W.cell? ⟨w.heap.size + 1, 0, none⟩ = some (.int .i64 kind) := r1.cell 0
  have q2 : W.cell? ⟨w.heap.size + 1, 2, none⟩ = some (.int .i64 vn) := r1.cell 2
  have q3 : W.cell? ⟨w.heap.size + 1, 3, none⟩ = some (.int .i64 ve) := r1.cell 3
  have HB0 := Lib.hid b0
  have R1 := Lib.hid r1
  have HA2 := Lib.hid (HA.out.below b0 hm)
  have hbs1 : (W.heap.size : Int) = w.heap.size + 2 := by omega
  clear r0 r1 b0
  go_loopw [36] (fun i wr => argRel args bs.length W i wr) (fun i _ => args.length - (intOf i).toNat)
  case atStart => exact ⟨0, Nat.zero_le _, rfl, rfl, rfl⟩
  case round =>
    as_aux_lemma =>
      obtain ⟨t, ht, rfl, hf, rfl⟩ := hrel
      have HF := Lib.hid hf
      clear hf
      by_cases hlt : t < args.length
      · obtain ⟨ab, ao, z, rfl, hab, hab2, hz, hzc⟩ := HA2.out.int_ hlt
        have HZ := Lib.hid hz
        clear hz
        by_cases h0 : z < 0
        · have hE := Lib.hid (be3 (np := ps.length) (nb := bs.length) (b := ⟨kind, some ⟨ab, ao, none⟩, args, cap, vn, ve, un, ue⟩) (Int.not_lt.2 HK0.out) HK1.out HM.out (out_hit HZ.out (by omega) HF.out))
          go_wp2_with fail
          go_ret
          exact ⟨er_n (k := 10) hE.out (by decide), HB0.out⟩
        · have h1 : 0 ≤ z := by omega
          clear h0
          by_cases h2 : z < (bs.length : Int)
          · have HZ2 := Lib.hid (out_step HZ.out ⟨h1, h2⟩ HF.out)
            go_wp2_with fail
            all_goals try (exfalso; omega)
            exact ⟨⟨t + 1, by omega, by go_num, HZ2.out, rfl⟩, by simp [intOf]; omega⟩
          · have hE := Lib.hid (be3 (np := ps.length) (nb := bs.length) (b := ⟨kind, some ⟨ab, ao, none⟩, args, cap, vn, ve, un, ue⟩) (Int.not_lt.2 HK0.out) HK1.out HM.out (out_hit HZ.out (by omega) HF.out))
            have h3 : (bs.length : Int) ≤ z := by omega
            clear h2
            go_wp2_with fail
            all_goals try (exfalso; omega)
            go_ret
            exact ⟨er_n (k := 10) hE.out (by decide), HB0.out⟩
      · have P1 := Lib.hid (fe_all (k := t) (by rw [List.length_map]; omega) HF.out)
        clear HF
        have hE4 := fun h => be4 (np := ps.length) (nb := bs.length) (b := ⟨kind, A, args, cap, vn, ve, un, ue⟩) (Int.not_lt.2 HK0.out) HK1.out HM.out P1.out HV.out h
        have hE5 := fun h4 h => be5 (np := ps.length) (nb := bs.length) (b := ⟨kind, A, args, cap, vn, ve, un, ue⟩) (Int.not_lt.2 HK0.out) HK1.out HM.out P1.out HV.out h4 HU.out h
        have hE6 := fun h4 h5 h => be6 (np := ps.length) (nb := bs.length) (b := ⟨kind, A, args, cap, vn, ve, un, ue⟩) (Int.not_lt.2 HK0.out) HK1.out HM.out P1.out HV.out h4 HU.out h5 h
        have hE7 := fun h4 h5 h => be7 (np := ps.length) (nb := bs.length) (b := ⟨kind, A, args, cap, vn, ve, un, ue⟩) (Int.not_lt.2 HK0.out) HK1.out HM.out P1.out HV.out h4 HU.out h5 h
        dsimp only at hE4 hE5 hE6 hE7
        have HE4 := Lib.hid hE4
        have HE5 := Lib.hid hE5
        have HE6 := Lib.hid hE6
        have HE7 := Lib.hid hE7
        clear hE4 hE5 hE6 hE7
        go_wp2_with fail
        go_at_call 90
        refine (scalar_any vn ve false wr).mono ?_
        rintro e w5 ⟨rfl, hb5⟩
        have N5 := Lib.hid (HB0.out.trans (hb5.mono (by omega)))
        have r5 := R1.out.call hb5
        have HT5 := Lib.hid (HTW.out.below (hb5.mono (B' := 1) (by omega)) (by omega))
        have hz5 := hb5.size
        have z5 : w.heap.size + 1 < w5.heap.size := by omega
        have q4 : w5.cell? ⟨w.heap.size + 1, 4, none⟩ = some (.int .i64 un) := r5.cell 4
        have q5 : w5.cell? ⟨w.heap.size + 1, 5, none⟩ = some (.int .i64 ue) := r5.cell 5
        have R5 := Lib.hid r5
        clear r5 hb5 q0 q2 q3 hlt hbs1
        by_cases h4 : scalE vn ve false = 0
        · rw [h4, errV_0]
          have H4 := Lib.hid h4
          clear h4
          go_wp2_with fail
          go_at_call 90
          refine (scalar_any un ue false w5).mono ?_
          rintro e w6 ⟨rfl, hb6⟩
          have N6 := Lib.hid (N5.out.trans (hb6.mono (by omega)))
          have r6 := R5.out.call hb6
          have HT6 := Lib.hid (HT5.out.below (hb6.mono (B' := 1) (by omega)) (by omega))
          have hz6 := hb6.size
          have z6 : w.heap.size + 1 < w6.heap.size := by omega
          have q2 : w6.cell? ⟨w.heap.size + 1, 2, none⟩ = some (.int .i64 vn) := r6.cell 2
          have q3 : w6.cell? ⟨w.heap.size + 1, 3, none⟩ = some (.int .i64 ve) := r6.cell 3
          have q6 : w6.cell? ⟨w.heap.size + 1, 4, none⟩ = some (.int .i64 un) := r6.cell 4
          have q7 : w6.cell? ⟨w.heap.size + 1, 5, none⟩ = some (.int .i64 ue) := r6.cell 5
          clear r6 hb6 q4 q5 z5
          by_cases h5 : scalE un ue false = 0
          · rw [h5, errV_0]
            have H5 := Lib.hid h5
            clear h5
            go_wp2_with fail
            go_quiet (fail)
            go_wp2_with fail
            go_ret
            exact ⟨er_0 (HE7.out H4.out H5.out (fun h => by cases h.1)), by repeat (first | exact N6.out | refine ext_drew ?_ | refine ext_drewN ?_ _)⟩
          · have HE := Lib.hid (HE5.out H4.out h5)
            rw [errV_n h5]
            have H5 := Lib.hid h5
            clear h5
            go_wp2_with fail
            go_ret
            exact ⟨er_n HE.out H5.out, N6.out⟩
        · have HE := Lib.hid (HE4.out h4)
          rw [errV_n h4]
          have H4 := Lib.hid h4
          clear h4
          go_wp2_with fail
          go_ret
          exact ⟨er_n HE.out H4.out, N5.out⟩
theorem check_any (d : Dg) (b : Bk) (m : Nat) (w : World) (hm : m ≤ w.heap.size) (hb : CellsAt w m b.A (ints b.args)) (hl : b.args.length ≤ 1000000) (hl1 : d.ps.length ≤ 1000000) (hl2 : d.bs.length ≤ 1000000) (ht : TabAt w) :
    Calls Tryd.prog 52 #[d.val, b.val] w fun e w' => e = .returned (errV (blkErr d.ps.length d.bs.length b)) ∧ Below w.heap.size w w' := by
  by_cases h : 0 ≤ arityM b.kind ∧ ((b.args.length : Nat) : Int) = arityM b.kind
  · obtain ⟨A1, ps, c1, A2, bs, c2, A3, os, c3⟩ := d
    obtain ⟨kind, A, args, cap, vn, ve, un, ue⟩ := b
    dsimp only at h hb hl hl1 hl2
    have hk0 : ¬ arityM kind < 0 := by omega
    by_cases h0 : kind = 0
    · subst h0; exact check_0 A1 ps c1 A2 bs c2 A3 os c3 A args cap vn ve un ue m w hk0 h.2 hl hl1 hl2 hm hb ht
    · by_cases h1 : kind = 1
      · subst h1; exact check_1 A1 ps c1 A2 bs c2 A3 os c3 A args cap vn ve un ue m w hk0 h.2 hl hl1 hl2 hm hb ht
      · by_cases h2 : kind = 2
        · subst h2; exact check_2 A1 ps c1 A2 bs c2 A3 os c3 A args cap vn ve un ue m w hk0 h.2 hl hl1 hl2 hm hb ht
        · by_cases h6 : kind = 6
          · subst h6; exact check_6 A1 ps c1 A2 bs c2 A3 os c3 A args cap vn ve un ue m w hk0 h.2 hl hl1 hl2 hm hb ht
          · by_cases h11 : kind = 11
            · subst h11; exact check_11 A1 ps c1 A2 bs c2 A3 os c3 A args cap vn ve un ue m w hk0 h.2 hl hl1 hl2 hm hb ht
            · exact check_x A1 ps c1 A2 bs c2 A3 os c3 kind A args cap vn ve un ue m w h0 h1 h2 h6 h11 hk0 h.2 hl hl1 hl2 hm hb ht
  · exact check_bad d b w h hl
theorem port_ok {p q r : Int} (h : portE ⟨p, q, r⟩ = 0) : -2147483648 ≤ p ∧ p ≤ q ∧ q < 2147483648 ∧ 0 ≤ r ∧ r ≤ 30 := by
  unfold portE at h
  by_cases h2 : -2147483648 ≤ p ∧ p ≤ q ∧ q < 2147483648 ∧ 0 ≤ r ∧ r ≤ 30
  · exact h2
  · rw [if_neg h2] at h; cases h
theorem port_bad {p q r : Int} (h : ¬ portE ⟨p, q, r⟩ = 0) : portE ⟨p, q, r⟩ = 3 := by
  unfold portE at h ⊢
  by_cases h2 : -2147483648 ≤ p ∧ p ≤ q ∧ q < 2147483648 ∧ 0 ≤ r ∧ r ≤ 30
  · exact absurd (if_pos h2) h
  · exact if_neg h2
theorem Check_any (d : Dg) (m : Nat) (w : World) (hm : m ≤ w.heap.size) (hd : DgAt w m d) (ht : TabAt w) :
    Calls Tryd.prog 25 #[d.val] w fun e w' => e = .returned (errV (dgErr d.ps d.bs d.os)) ∧ Below w.heap.size w w' := by
  have hl1 := hd.l1
  have hl2 := hd.l2
  have hl3 := hd.l3
  have HD := Lib.hid hd
  have HT := Lib.hid ht
  clear hd ht
  obtain ⟨A1, ps, c1, A2, bs, c2, A3, os, c3⟩ := d
  dsimp only at hl1 hl2 hl3
  simp only [Dg.val]
  by_cases hsz : sizeOk ps bs os
  · have HSZ := Lib.hid hsz
    clear hsz
    have l1' : (ps.length : Int) ≤ 16 := by have := HSZ.out.1; omega
    have l2' : (bs.length : Int) ≤ 64 := by have := HSZ.out.2.1; omega
    have l3' : (os.length : Int) ≤ 16 := by have := HSZ.out.2.2; omega
    have r0 := RowD.new_ w [.slice A1 ps.length c1, .slice A2 bs.length c2, .slice A3 os.length c3] 41
    have b0 := al_ w (.cells #[.slice A1 ps.length c1, .slice A2 bs.length c2, .slice A3 os.length c3] 41)
    go_enter Tryd.func25, Tryd.ntmps25
    go_wp2_with fail
    all_goals try (exfalso; omega)
    go_loopw [32] (fun i wr => cqRel w [.slice A1 ps.length c1, .slice A2 bs.length c2, .slice A3 os.length c3] (ps.map portE) i wr) (fun i _ => ps.length - (intOf i).toNat)
    case atStart => exact ⟨0, Nat.zero_le _, rfl, rfl, r0, b0⟩
    case round =>
      as_aux_lemma =>
        clear r0 b0
        obtain ⟨k, hk, rfl, hf, hbox, hb⟩ := hrel
        have HF := Lib.hid hf
        have HB := Lib.hid hbox
        have z0 := hbox.lt
        have q1 : wr.cell? ⟨w.heap.size, 1, none⟩ = some (.slice A2 bs.length c2) := hbox.cell 1
        clear hf hbox
        rw [List.length_map] at hk
        by_cases hlt : k < ps.length
        · obtain ⟨b, off, x, rfl, hbm, hbs, hx, hc⟩ := (HD.out.below hb hm).ps.row (s := 3) (fun _ => rfl) (by omega) hlt
          obtain ⟨plo, phi, pfr⟩ := x
          have g0 : wr.cell? ⟨b, off + k * 3, none⟩ = some (.int .i64 plo) := hc 0 _ rfl
          have g1 := hc 1 _ rfl
          have g2 := hc 2 _ rfl
          dsimp only at g1 g2
          have HX := Lib.hid hx
          clear hc hx
          by_cases hp : portE ⟨plo, phi, pfr⟩ = 0
          · have HPE := Lib.hid hp
            have hp2 : -2147483648 ≤ plo ∧ plo ≤ phi ∧ phi < 2147483648 ∧ 0 ≤ pfr ∧ pfr ≤ 30 := port_ok hp
            obtain ⟨p1, p2, p3, p4, p5⟩ := hp2
            clear hp
            go_wp2_with fail
            all_goals try (exfalso; omega)
            exact ⟨⟨k + 1, by rw [List.length_map]; omega, by go_num, fs1 HX.out HPE.out HF.out, HB.out.call (al_ _ _), ext_alloc hb _⟩, by simp [intOf]; omega⟩
          · have h3 : portE ⟨plo, phi, pfr⟩ = 3 := port_bad hp
            have HE := Lib.hid (de1 HSZ.out (pe1 (bs := bs) (os := os) HX.out h3 (by decide) HF.out) (by decide))
            have hp2 : ¬ (-2147483648 ≤ plo ∧ plo ≤ phi ∧ phi < 2147483648 ∧ 0 ≤ pfr ∧ pfr ≤ 30) := fun h => hp (if_pos h)
            have HP2 := Lib.hid hp2
            clear hp h3 hp2
            go_wp2_with fail
            all_goals first
              | (go_ret
                 exact ⟨er_n (k := 3) (HE.out) (by decide), ext_alloc hb _⟩)
              | (exfalso; exact HP2.out ⟨by omega, by omega, by omega, by omega, by omega⟩)
        · have P1 := Lib.hid (fe_all (k := k) (by rw [List.length_map]; omega) HF.out)
          clear HF
          go_wp2_with fail
          clear q1 hk hlt
          obtain ⟨w2, hw2⟩ : ∃ w2, w2 = wr := ⟨_, rfl⟩
          rw [← hw2] at HB hb
          rw [← hw2]
          clear hw2 z0
          go_loopw [66] (fun i wr => cqRel w [.slice A1 ps.length c1, .slice A2 bs.length c2, .slice A3 os.length c3] (bs.map (blkErr ps.length bs.length)) i wr) (fun i _ => bs.length - (intOf i).toNat)
          case atStart => exact ⟨0, Nat.zero_le _, rfl, rfl, HB.out, hb⟩
          case round =>
            as_aux_lemma =>
              clear HB hb
              obtain ⟨k, hk, rfl, hf, hbox, hb⟩ := hrel
              have HF := Lib.hid hf
              have HB := Lib.hid hbox
              have z0 := hbox.lt
              have q0 : wr.cell? ⟨w.heap.size, 0, none⟩ = some (.slice A1 ps.length c1) := hbox.cell 0
              have q1 : wr.cell? ⟨w.heap.size, 1, none⟩ = some (.slice A2 bs.length c2) := hbox.cell 1
              have q2 : wr.cell? ⟨w.heap.size, 2, none⟩ = some (.slice A3 os.length c3) := hbox.cell 2
              clear hf hbox
              rw [List.length_map] at hk
              by_cases hlt : k < bs.length
              · obtain ⟨b, off, kind, KA, args, cap, vn, ve, un, ue, hA, hbm, hbs, hx, g0, g1, g2, g3, g4, g5, ha, hal⟩ := (HD.out.below hb hm).blk hlt
                dsimp only at hA hx
                subst hA
                have HX := Lib.hid hx
                have HA := Lib.hid ha
                clear hx ha
                go_wp2_with fail
                go_at_call 52
                refine (check_any ⟨A1, ps, c1, some ⟨b, off, none⟩, bs, c2, A3, os, c3⟩ ⟨kind, KA, args, cap, vn, ve, un, ue⟩ m _ (by have := hb.size; simp; omega) (HA.out.below (al_ _ _) (by have := hb.size; omega)) hal hl1 hl2 ((HT.out.below hb HT.out.1).below (al_ _ _) (HT.out.below hb HT.out.1).1)).mono ?_
                rintro e w5 ⟨rfl, hb5⟩
                dsimp only at hb5 ⊢
                have HB5 := Lib.hid ((HB.out.call (al_ _ _)).call hb5)
                have N5 := Lib.hid ((ext_alloc hb (.cells #[.int .i64 kind, .slice KA args.length cap, .int .i64 vn, .int .i64 ve, .int .i64 un, .int .i64 ue] 66)).trans (hb5.mono (by have := hb.size; simp; omega)))
                clear hb5 g0 g1 g2 g3 g4 g5 q0 q1 q2
                obtain ⟨E, hE⟩ : ∃ E, blkErr ps.length bs.length ⟨kind, KA, args, cap, vn, ve, un, ue⟩ = E := ⟨_, rfl⟩
                have HEE := Lib.hid hE
                rw [hE]
                clear hE
                by_cases he0 : E = 0
                · have HE0 := Lib.hid (HEE.out.trans he0)
                  rw [he0, errV_0]
                  clear he0
                  go_wp2_with fail
                  exact ⟨⟨k + 1, by rw [List.length_map]; omega, by go_num, fs1 HX.out HE0.out HF.out, HB5.out, N5.out⟩, by simp [intOf]; omega⟩
                · have HE := Lib.hid (de1 HSZ.out (pe2 (os := os) P1.out HX.out HEE.out he0 HF.out) he0)
                  rw [errV_n he0]
                  have HE0 := Lib.hid he0
                  clear he0
                  go_wp2_with fail
                  go_ret
                  exact ⟨er_n HE.out HE0.out, N5.out⟩
              · have P2 := Lib.hid (fe_all (k := k) (by rw [List.length_map]; omega) HF.out)
                clear HF
                go_wp2_with fail
                clear q0 q1 q2 hk hlt
                obtain ⟨w3, hw3⟩ : ∃ w3, w3 = wr := ⟨_, rfl⟩
                rw [← hw3] at HB hb
                rw [← hw3]
                clear hw3 z0
                go_loopw [80] (fun i wr => cqRel w [.slice A1 ps.length c1, .slice A2 bs.length c2, .slice A3 os.length c3] (os.map (outE bs.length)) i wr) (fun i _ => os.length - (intOf i).toNat)
                case atStart => exact ⟨0, Nat.zero_le _, rfl, rfl, HB.out, hb⟩
                case round =>
                  as_aux_lemma =>
                    clear HB hb
                    obtain ⟨k, hk, rfl, hf, hbox, hb⟩ := hrel
                    have HF := Lib.hid hf
                    have HB := Lib.hid hbox
                    have z0 := hbox.lt
                    have q0 : wr.cell? ⟨w.heap.size, 0, none⟩ = some (.slice A1 ps.length c1) := hbox.cell 0
                    have q1 : wr.cell? ⟨w.heap.size, 1, none⟩ = some (.slice A2 bs.length c2) := hbox.cell 1
                    have q2 : wr.cell? ⟨w.heap.size, 2, none⟩ = some (.slice A3 os.length c3) := hbox.cell 2
                    clear hf hbox
                    rw [List.length_map] at hk
                    by_cases hlt : k < os.length
                    · obtain ⟨b, off, z, rfl, hbm, hbs, hx, hc⟩ := (HD.out.below hb hm).os.int_ hlt
                      have HX := Lib.hid hx
                      clear hx
                      by_cases ho : 0 ≤ z ∧ z < (bs.length : Int)
                      · have HOE := Lib.hid (show outE bs.length z = 0 from if_pos ho)
                        obtain ⟨o1, o2⟩ := ho
                        go_wp2_with fail
                        all_goals try (exfalso; omega)
                        exact ⟨⟨k + 1, by rw [List.length_map]; omega, by go_num, fs1 HX.out HOE.out HF.out, HB.out, hb⟩, by simp [intOf]; omega⟩
                      · have HE := Lib.hid (de1 HSZ.out (pe3 P1.out P2.out HX.out (if_neg ho) (by decide) HF.out) (by decide))
                        have HO := Lib.hid ho
                        clear ho
                        go_wp2_with fail
                        all_goals first
                          | (go_ret
                             exact ⟨er_n (k := 10) (HE.out) (by decide), hb⟩)
                          | (exfalso; exact HO.out ⟨by omega, by omega⟩)
                    · have P3 := Lib.hid (fe_all (k := k) (by rw [List.length_map]; omega) HF.out)
                      have HE := Lib.hid (de2 HSZ.out (pe4 P1.out P2.out P3.out))
                      have HSO := Lib.hid (succ_ok P2.out)
                      clear HF
                      go_wp2_with fail
                      obtain ⟨w4, hw4⟩ : ∃ w4, w4 = wr := ⟨_, rfl⟩
                      rw [← hw4] at z0 q0 q1 q2 hb
                      rw [← hw4]
                      have HB4 := Lib.hid hb
                      clear hw4 HB hb hlt hk
                      go_at_call 53
                      refine (order_any ⟨A1, ps, c1, A2, bs, c2, A3, os, c3⟩ m w4 (by have := HB4.out.size; omega) (HD.out.below HB4.out hm) HSO.out).mono ?_
                      rintro e w7 ⟨v7, rfl, _, hb7⟩
                      dsimp only
                      go_wp2_with fail
                      go_ret
                      exact ⟨by rw [HE.out]; rfl, HB4.out.trans (hb7.mono HB4.out.size)⟩
  · have HE := Lib.hid (de0 hsz)
    have b0 := al_ w (.cells #[.slice A1 ps.length c1, .slice A2 bs.length c2, .slice A3 os.length c3] 41)
    have key : 16 < (ps.length : Int) ∨ ((ps.length : Int) ≤ 16 ∧ 64 < (bs.length : Int)) ∨ ((ps.length : Int) ≤ 16 ∧ (bs.length : Int) ≤ 64 ∧ 16 < (os.length : Int)) := by
      unfold sizeOk at hsz
      omega
    clear hsz
    rcases key with k1 | ⟨k1, k2⟩ | ⟨k1, k2, k3⟩
    all_goals
      go_enter Tryd.func25, Tryd.ntmps25
      go_wp2_with fail
      all_goals try (exfalso; omega)
      go_ret
      exact ⟨er_n (k := 4) (HE.out) (by decide), b0⟩
def mark0 (bs : List Bk) (i : Nat) : List Bool := (List.replicate bs.length false).set i true
def usesL (bs : List Bk) (i : Nat) : List Int := natI (markL (passes bs false bs.length (mark0 bs i)))
def usesE (ps : List Prt) (bs : List Bk) (os : List Int) (i : Int) : Int := if ¬ dgErr ps bs os = 0 then dgErr ps bs os else if 0 ≤ i ∧ i < (bs.length : Int) then 0 else 10
def usesO (ps : List Prt) (bs : List Bk) (os : List Int) (i : Int) : List Int := if usesE ps bs os i = 0 then usesL bs i.toNat else []
def UsesP (ps : List Prt) (bs : List Bk) (os : List Int) (i : Int) (w : World) (e : Ending) (w' : World) : Prop :=
  ∃ v, e = .returned (.tuple #[v, errV (usesE ps bs os i)]) ∧ OwnI w' w.heap.size v (usesO ps bs os i) ∧ Below w.heap.size w w'
theorem pre_of {ps : List Prt} {bs : List Bk} {os : List Int} (h : dgErr ps bs os = 0) : sizeOk ps bs os ∧ preErr ps bs os = 0 ∧ ordErr bs = 0 := by
  unfold dgErr at h
  by_cases h1 : sizeOk ps bs os
  · rw [if_neg (not_not_intro h1)] at h
    by_cases h2 : preErr ps bs os = 0
    · rw [if_neg (not_not_intro h2)] at h
      exact ⟨h1, h2, h⟩
    · rw [if_pos h2] at h
      exact absurd h h2
  · rw [if_pos h1] at h; cases h
theorem pre_blk {ps : List Prt} {bs : List Bk} {os : List Int} (h : preErr ps bs os = 0) : firstErr (bs.map (blkErr ps.length bs.length)) = 0 := by
  unfold preErr at h
  rw [firstErr_append] at h
  by_cases h1 : firstErr (ps.map portE) = 0
  · rw [if_pos h1, firstErr_append] at h
    by_cases h2 : firstErr (bs.map (blkErr ps.length bs.length)) = 0
    · exact h2
    · rw [if_neg h2] at h; exact h
  · rw [if_neg h1] at h; exact absurd h h1
theorem dg_succ {ps : List Prt} {bs : List Bk} {os : List Int} (h : dgErr ps bs os = 0) : SuccOk bs := succ_ok (pre_blk (pre_of h).2.1)
theorem isM_rep (n j : Nat) : isM (List.replicate n false) j = false := by
  unfold isM
  rw [List.getElem?_replicate]
  split <;> rfl
theorem unM_le (m : List Bool) : unM m ≤ m.length := List.length_filter_le _ _
end Go.Proofs.YtfooonellkgaeaaDoor
namespace Go.Proofs.YtfooonellkgaeaaDoor
open Go.RowKit
def isB (n k : Int) : Bool := decide (n ≠ 0 ∧ n = k)
theorem isB_0 (k : Int) : isB 0 k = false := by simp [isB]
theorem isB_self {k : Int} (h : k ≠ 0) : isB k k = true := by simp [isB, h]
theorem isB_ne {n k : Int} (h : n ≠ k) : isB n k = false := by simp [isB, h]
theorem is_any (n k : Int) (w : World) : Calls Tryd.prog 11 #[errV n, .int .i64 k] w fun e w' => e = .returned (.bool (isB n k)) ∧ w = w' := by
  by_cases h : n = 0
  · subst h
    have HV := Lib.hid (isB_0 k)
    have hta : ∀ w, (Instr.typeAssert .nilIface 29 33 true).run Tryd.prog w = .ok (.tuple #[.int .i64 0, .bool false]) w := fun _ => by kernel_rfl
    rw [errV_0]
    go_enter Tryd.func11, Tryd.ntmps11
    go_wp2_with fail
    go_ret
    exact ⟨by rw [HV.out]; rfl, rfl⟩
  · have hta : ∀ w, (Instr.typeAssert (.iface 33 (.int .i64 n)) 29 33 true).run Tryd.prog w = .ok (.tuple #[.int .i64 n, .bool true]) w := fun _ => by kernel_rfl
    rw [errV_n h]
    by_cases hk : n = k
    · subst hk
      have HV := Lib.hid (isB_self h)
      clear h
      have hb : (n == n) = true := by simp
      go_enter Tryd.func11, Tryd.ntmps11
      go_wp2_with fail
      go_ret
      exact ⟨by rw [HV.out]; rfl, rfl⟩
    · have HV := Lib.hid (isB_ne hk)
      have hb : (n == k) = false := by simpa using hk
      clear h hk
      go_enter Tryd.func11, Tryd.ntmps11
      go_wp2_with fail
      go_ret
      exact ⟨by rw [HV.out]; rfl, rfl⟩
/- The example, its lists in the blocks from n. -/
def exBs (n : Nat) (k : Int) : List Bk := [⟨0, some ⟨n + 1 + 1, 0, none⟩, [0], 1, 0, 0, 0, 0⟩, ⟨3, some ⟨n + 1 + 1 + 1, 0, none⟩, [0, 2], 2, 0, 0, 0, 0⟩, ⟨k, some ⟨n + 1 + 1 + 1 + 1, 0, none⟩, [1], 1, 0, 0, 0, 0⟩]
def exDg (n : Nat) (k : Int) : Dg := ⟨some ⟨n, 0, none⟩, [⟨-8, 8, 0⟩], 1, some ⟨n + 1 + 1 + 1 + 1 + 1, 0, none⟩, exBs n k, 3, some ⟨n + 1, 0, none⟩, [1], 1⟩
structure ExAt (w : World) (n : Nat) (k : Int) : Prop where
  h1 : RowD w n (flat Prt.cells [⟨-8, 8, 0⟩]) 69
  h2 : RowD w (n + 1) (ints [1]) 3
  h3 : RowD w (n + 1 + 1) (ints [0]) 3
  h4 : RowD w (n + 1 + 1 + 1) (ints [0, 2]) 3
  h5 : RowD w (n + 1 + 1 + 1 + 1) (ints [1]) 3
  h6 : RowD w (n + 1 + 1 + 1 + 1 + 1) (flat Bk.cells (exBs n k)) 66
def ExP (w : World) (e : Ending) (w' : World) : Prop := ∃ n, w.heap.size ≤ n ∧ e = .returned (exDg n 2).val ∧ ExAt w' n 2 ∧ Below w.heap.size w w'
theorem RowD.al {w : World} {b t : Nat} {vs : List Value} (h : RowD w b vs t) (o : Obj) : RowD (w.alloc o) b vs t := h.call (al_ w o)
end Go.Proofs.YtfooonellkgaeaaDoor
namespace Go.Proofs.YtfooonellkgaeaaDoor
open Go.ChangeShapes Go.WideShapes Go.ChangeAt Go.RowKit Go.Joins Go.Deep
set_option maxRecDepth 100000
def i64B (z : Int) : Prop := -9223372036854775808 ≤ z ∧ z ≤ 9223372036854775807
def prtOf (zs : List Int) : Prt := ⟨zs.getD 0 0, zs.getD 1 0, zs.getD 2 0⟩
theorem prtOf_cells (zs : List Int) (h : zs.length = 3) : (prtOf zs).cells = ints zs := by
  match zs, h with
  | [_, _, _], _ => rfl
theorem fields_int {fs : Array Field} (h : fs.all (fun f => f.type == 3) = true) : ∀ (i : Nat) (f : Field), fs[i]? = some f → Tryd.prog.underlying f.type = some (.int .i64) := by
  intro i f hf
  have hi := (Array.getElem?_eq_some_iff.1 hf)
  have := Array.all_eq_true.1 h i hi.1
  rw [hi.2] at this
  have e : f.type = 3 := by simpa using this
  rw [e]
  exact Tryd.underlying3
section
variable {H : Type} {enc : TypeId × Value → H} {w : World} {spare : Nat → Bool} {held : Bool}
def bkB (x : Bk) : Prop := i64B x.kind ∧ i64B x.vn ∧ i64B x.ve ∧ i64B x.un ∧ i64B x.ue
theorem scal_cells {fuel : Nat} {cs : List Value} {x : DataW H × List MemPlace} (h : DataW.trod enc Tryd.prog w 0 spare held fuel 23 cs = some x) : ∃ n e : Int, cs = [.int .i64 n, .int .i64 e] ∧ i64B n ∧ i64B e := by
  obtain ⟨zs, rfl, hl, hz⟩ := row_ints Tryd.underlying23 (by kernel_rfl) (fields_int (by kernel_rfl)) (by kernel_rfl) h
  match zs, hl with
  | [n, e], _ => exact ⟨n, e, rfl, hz _ (by simp), hz _ (by simp)⟩
theorem row_blk {fuel : Nat} {cs : List Value} {x : DataW H × List MemPlace} (h : DataW.trod enc Tryd.prog w 0 spare held fuel 66 cs = some x) :
    ∃ b : Bk, cs = b.cells ∧ (b.A = none → b.cap = 0) ∧ b.args.length ≤ b.cap ∧ b.args.length ≤ maxLen ∧ CellsAt w w.heap.size b.A (ints b.args) ∧ (∀ z ∈ b.args, i64B z) ∧ bkB b := by
  obtain ⟨xs, n, _, _, hlen, hxl, hg⟩ := DataW.trod_struct Tryd.underlying66 h
  have hl6 : cs.length = 6 := hlen.trans (by kernel_rfl)
  match cs, hl6 with
  | [c0, c1, c2, c3, c4, c5], _ =>
    have k1 : Tryd.prog.cellsOf 3 = 1 := by kernel_rfl
    have k2 : Tryd.prog.cellsOf 39 = 1 := by kernel_rfl
    have k3 : Tryd.prog.cellsOf 23 = 2 := by kernel_rfl
    have hx4 : xs.length = 4 := hxl
    match xs, hx4 with
    | [x0, x1, x2, x3], _ =>
      have g0 : DataW.trod enc Tryd.prog w 0 spare held n 3 (([c0, c1, c2, c3, c4, c5].drop 0).take (Tryd.prog.cellsOf 3)) = some x0 := hg 0 _ rfl
      have g1 : DataW.trod enc Tryd.prog w 0 spare held n 39 (([c0, c1, c2, c3, c4, c5].drop 1).take (Tryd.prog.cellsOf 39)) = some x1 := hg 1 _ rfl
      have g2 : DataW.trod enc Tryd.prog w 0 spare held n 23 (([c0, c1, c2, c3, c4, c5].drop 2).take (Tryd.prog.cellsOf 23)) = some x2 := hg 2 _ rfl
      have g3 : DataW.trod enc Tryd.prog w 0 spare held n 23 (([c0, c1, c2, c3, c4, c5].drop 4).take (Tryd.prog.cellsOf 23)) = some x3 := hg 3 _ rfl
      rw [k1] at g0
      rw [k2] at g1
      rw [k3] at g2 g3
      obtain ⟨kind, hk, _, hkb⟩ := DataW.trod_int Tryd.underlying3 g0
      obtain ⟨A, cap, args, ha, hA0, hc1, hc2, hc3, hc4⟩ := ints_of_cell' Tryd.underlying39 Tryd.underlying3 (by kernel_rfl) g1
      obtain ⟨vn, ve, hv, b1, b2⟩ := scal_cells g2
      obtain ⟨un, ue, hu, b3, b4⟩ := scal_cells g3
      refine ⟨⟨kind, A, args, cap, vn, ve, un, ue⟩, ?_, hA0, hc1, hc2, hc3, hc4, bounds_i64 hkb, b1, b2, b3, b4⟩
      have e0 : [c0] = [Value.int .i64 kind] := hk
      have e2 : [c2, c3] = [Value.int .i64 vn, Value.int .i64 ve] := hv
      have e3 : [c4, c5] = [Value.int .i64 un, Value.int .i64 ue] := hu
      simp only [List.cons.injEq, and_true] at e0 e2 e3
      rw [e0, ha, e2.1, e2.2, e3.1, e3.2]
      rfl
structure DgIn (w : World) (d : Dg) : Prop where
  ps : CellsAt w w.heap.size d.A1 (flat Prt.cells d.ps)
  bs : CellsAt w w.heap.size d.A2 (flat Bk.cells d.bs)
  os : CellsAt w w.heap.size d.A3 (ints d.os)
  args : ∀ b ∈ d.bs, CellsAt w w.heap.size b.A (ints b.args)
  l1 : d.ps.length ≤ maxLen
  l2 : d.bs.length ≤ maxLen
  l3 : d.os.length ≤ maxLen
  l4 : ∀ b ∈ d.bs, b.args.length ≤ maxLen
  k4 : ∀ b ∈ d.bs, b.args.length ≤ b.cap
  bb : ∀ b ∈ d.bs, bkB b
  ba : ∀ b ∈ d.bs, ∀ z ∈ b.args, i64B z
  bo : ∀ z ∈ d.os, i64B z
  n1 : d.A1 = none → d.c1 = 0
  n3 : d.A3 = none → d.c3 = 0
  n4 : ∀ b ∈ d.bs, b.A = none → b.cap = 0
instance : Inhabited Bk := ⟨bk0⟩
theorem blks_of_cell {fuel : Nat} {v : Value} {x : DataW H × List MemPlace} (h : DataW.trod enc Tryd.prog w 0 spare held fuel 38 [v] = some x) :
    ∃ (A : Option Addr) (cap : Nat) (l : List Bk), v = .slice A l.length cap ∧ l.length ≤ maxLen ∧ CellsAt w w.heap.size A (flat Bk.cells l) ∧
      ∀ b ∈ l, (b.A = none → b.cap = 0) ∧ b.args.length ≤ b.cap ∧ b.args.length ≤ maxLen ∧ CellsAt w w.heap.size b.A (ints b.args) ∧ (∀ z ∈ b.args, i64B z) ∧ bkB b := by
  rcases open_slice Tryd.underlying38 h with ⟨hcs, _⟩ | ⟨a, len, cap, m, n, D, Pl, hcs, _, hl, hm, hmm, _, hx⟩
  · exact ⟨none, 0, [], by simpa using hcs, Nat.zero_le _, CellsAt.nil_, by simp⟩
  · have hle : len ≤ m := by rw [hmm]; split <;> omega
    rw [show Tryd.prog.cellsOf 66 = 6 by kernel_rfl] at hx
    obtain ⟨R, hR⟩ := choose_lt (α := Bk) (n := len) (p := fun i b => ((b.A = none → b.cap = 0) ∧ b.args.length ≤ b.cap ∧ b.args.length ≤ maxLen ∧ CellsAt w w.heap.size b.A (ints b.args) ∧ (∀ z ∈ b.args, i64B z) ∧ bkB b) ∧ ∀ j, j < 6 → w.cell? (a.add (i * 6 + j)) = b.cells[j]?) (fun i hi => by
      obtain ⟨cs', h1, h2⟩ := hx i (by omega)
      obtain ⟨b, rfl, hb⟩ := row_blk h2
      obtain ⟨_, hlen, hcell⟩ := World.cells?_some h1
      exact ⟨b, hb, fun j hj => by rw [← add_add]; exact hcell j hj⟩)
    refine ⟨some a, cap, (List.range len).map R, by simpa using hcs, by simp; omega, fun hne => ?_, ?_⟩
    · have hpos : 0 < len := by
        rcases Nat.eq_zero_or_pos len with h0 | h0
        · subst h0; simp [flat] at hne
        · exact h0
      obtain ⟨b, off, spot⟩ := a
      have h00 := (hR 0 hpos).2 0 (by decide)
      have hz0 : (R 0).cells[0]? = some (.int .i64 (R 0).kind) := rfl
      rw [hz0] at h00
      have hspot : spot = none := by simpa [Addr.add] using World.cell?_spot h00
      subst hspot
      have hb : b < w.heap.size := by
        rcases Nat.lt_or_ge b w.heap.size with h | h
        · exact h
        · simp [World.cell?, Addr.add, Array.getElem?_eq_none h] at h00
      refine ⟨b, off, rfl, hb, hb, fun j u hu => ?_⟩
      have hjl : j < len * 6 := by
        have := (List.getElem?_eq_some_iff.1 hu).1
        rw [flat_len (s := 6) (fun _ => rfl)] at this
        simpa using this
      have hk : j / 6 < len := Nat.div_lt_of_lt_mul (by rw [Nat.mul_comm]; exact hjl)
      have hr : j % 6 < 6 := Nat.mod_lt _ (by decide)
      have hj : j / 6 * 6 + j % 6 = j := by rw [Nat.mul_comm]; exact Nat.div_add_mod j 6
      have hg : ((List.range len).map R)[j / 6]? = some (R (j / 6)) := by simp [hk]
      have h1 := flat_get (f := Bk.cells) (s := 6) (fun _ => rfl) hg hr
      rw [hj, hu] at h1
      have h2 := (hR _ hk).2 (j % 6) hr
      rw [hj, ← h1] at h2
      rw [← Go.WideShapes.add_plain]
      exact h2
    · intro y hy
      obtain ⟨i, hi, rfl⟩ := List.mem_map.1 hy
      exact (hR i (by simpa using hi)).1
end
end Go.Proofs.YtfooonellkgaeaaDoor
namespace Go.Proofs.YtfooonellkgaeaaDoor
open Go.RowKit
def RetOE (xs : List Int) (er : Int) (w : World) (e : Ending) (w' : World) : Prop := ∃ v, e = .returned (.tuple #[v, errV er]) ∧ OwnI w' w.heap.size v xs ∧ Below w.heap.size w w'
def ordO (d : Dg) : List Int := if dgErr d.ps d.bs d.os = 0 then natI (ordM d.bs) else []
def delO (d : Dg) : List Int := if dgErr d.ps d.bs d.os = 0 then natI (delL d.bs) else []
def dgE (d : Dg) : Int := dgErr d.ps d.bs d.os
theorem Order_any (d : Dg) (m : Nat) (w : World) (hm : m ≤ w.heap.size) (hd : DgAt w m d) (ht : TabAt w) :
    Calls Tryd.prog 42 #[d.val] w (RetOE (ordO d) (dgE d) w) := by
  have hl2 := hd.l2
  have HD := Lib.hid hd
  have HT := Lib.hid ht
  clear hd ht
  obtain ⟨A1, ps, c1, A2, bs, c2, A3, os, c3⟩ := d
  dsimp only at hl2
  simp only [Dg.val]
  have b0 := al_ w (.cells #[.slice A1 ps.length c1, .slice A2 bs.length c2, .slice A3 os.length c3] 41)
  have r0 := RowD.new_ w [.slice A1 ps.length c1, .slice A2 bs.length c2, .slice A3 os.length c3] 41
  have HB0 := Lib.hid b0
  have R0 := Lib.hid r0
  clear b0 r0
  obtain ⟨E, hE⟩ : ∃ E, dgErr ps bs os = E := ⟨_, rfl⟩
  have HE := Lib.hid hE
  clear hE
  go_enter Tryd.func42, Tryd.ntmps42
  go_wp2_with fail
  go_at_call 25
  refine (Check_any ⟨A1, ps, c1, A2, bs, c2, A3, os, c3⟩ m _ (by simp; omega) (HD.out.below HB0.out hm) (HT.out.below HB0.out HT.out.1)).mono ?_
  rintro e w1 ⟨rfl, hb1⟩
  dsimp only
  rw [HE.out]
  have R1 := Lib.hid (R0.out.call hb1)
  have N1 := Lib.hid (HB0.out.trans (hb1.mono HB0.out.size))
  have z1 : w.heap.size < w1.heap.size := R1.out.lt
  have q0 : w1.cell? ⟨w.heap.size, 0, none⟩ = some (.slice A1 ps.length c1) := R1.out.cell 0
  have q1 : w1.cell? ⟨w.heap.size, 1, none⟩ = some (.slice A2 bs.length c2) := R1.out.cell 1
  have q2 : w1.cell? ⟨w.heap.size, 2, none⟩ = some (.slice A3 os.length c3) := R1.out.cell 2
  clear hb1
  by_cases he : E = 0
  · have HE0 := Lib.hid (HE.out.trans he)
    rw [he, errV_0]
    clear he
    have HO := Lib.hid (show ordO ⟨A1, ps, c1, A2, bs, c2, A3, os, c3⟩ = natI (ordM bs) from if_pos HE0.out)
    go_wp2_with fail
    go_at_call 53
    refine (order_any ⟨A1, ps, c1, A2, bs, c2, A3, os, c3⟩ m w1 (by omega) (HD.out.below N1.out hm) (dg_succ HE0.out)).mono ?_
    rintro e w2 ⟨v, rfl, hown, hb2⟩
    have h0 := (pre_of HE0.out).2.2
    have hx : ordL bs = natI (ordM bs) := by unfold ordL; rw [if_pos h0]
    dsimp only at hown
    rw [hx] at hown
    dsimp only
    rw [h0, errV_0]
    have HW := Lib.hid hown
    have N2 := Lib.hid (N1.out.trans (hb2.mono N1.out.size))
    clear hown hb2 hx h0 q0 q1 q2
    go_wp2_with fail
    refine bodyPost_ret (v := .tuple #[v, .nilIface]) (by simp [results, Tryd.results42, go_sem]) rfl ⟨v, by show _ = Ending.returned (.tuple #[v, errV (dgErr ps bs os)]); rw [HE0.out, errV_0], ?_, N2.out⟩
    rw [HO.out]
    exact HW.out.base_ (by omega)
  · have HO := Lib.hid (show ordO ⟨A1, ps, c1, A2, bs, c2, A3, os, c3⟩ = [] from if_neg (by rw [HE.out]; exact he))
    have HEN := Lib.hid (errV_n he)
    clear he
    rw [HEN.out]
    go_wp2_with fail
    refine bodyPost_ret (v := .tuple #[.slice none 0 0, .iface 33 (.int .i64 E)]) (by simp [results, Tryd.results42, go_sem]) rfl ⟨_, by show _ = Ending.returned (.tuple #[_, errV (dgErr ps bs os)]); rw [HE.out, HEN.out], by rw [HO.out]; exact OwnI.nil_ _ _, N1.out⟩
def pdRel (w : World) (vs : List Value) (bs : List Bk) (v i : Value) (wr : World) : Prop := ∃ k : Nat, k ≤ bs.length ∧ i = .int .i64 k ∧ OwnI wr (w.heap.size + 1) v (natI (fl (isDel bs) k)) ∧ RowD wr w.heap.size vs 41 ∧ Below w.heap.size w wr
theorem Delays_any (d : Dg) (m : Nat) (w : World) (hm : m ≤ w.heap.size) (hd : DgAt w m d) (ht : TabAt w) :
    Calls Tryd.prog 40 #[d.val] w (RetOE (delO d) (dgE d) w) := by
  have hl2 := hd.l2
  have HD := Lib.hid hd
  have HT := Lib.hid ht
  clear hd ht
  obtain ⟨A1, ps, c1, A2, bs, c2, A3, os, c3⟩ := d
  dsimp only at hl2
  simp only [Dg.val]
  have b0 := al_ w (.cells #[.slice A1 ps.length c1, .slice A2 bs.length c2, .slice A3 os.length c3] 41)
  have r0 := RowD.new_ w [.slice A1 ps.length c1, .slice A2 bs.length c2, .slice A3 os.length c3] 41
  have HB0 := Lib.hid b0
  have R0 := Lib.hid r0
  clear b0 r0
  obtain ⟨E, hE⟩ : ∃ E, dgErr ps bs os = E := ⟨_, rfl⟩
  have HE := Lib.hid hE
  clear hE
  go_enter Tryd.func40, Tryd.ntmps40
  go_wp2_with fail
  go_at_call 25
  refine (Check_any ⟨A1, ps, c1, A2, bs, c2, A3, os, c3⟩ m _ (by simp; omega) (HD.out.below HB0.out hm) (HT.out.below HB0.out HT.out.1)).mono ?_
  rintro e w1 ⟨rfl, hb1⟩
  dsimp only
  rw [HE.out]
  have R1 := Lib.hid (R0.out.call hb1)
  have N1 := Lib.hid (HB0.out.trans (hb1.mono HB0.out.size))
  have z1 : w.heap.size < w1.heap.size := R1.out.lt
  have q1 : w1.cell? ⟨w.heap.size, 1, none⟩ = some (.slice A2 bs.length c2) := R1.out.cell 1
  clear hb1
  by_cases he : E = 0
  · have HE0 := Lib.hid (HE.out.trans he)
    rw [he, errV_0]
    clear he
    have HO := Lib.hid (show delO ⟨A1, ps, c1, A2, bs, c2, A3, os, c3⟩ = natI (delL bs) from if_pos HE0.out)
    go_wp2_with fail
    clear q1 z1
    go_loopw [5, 16] (fun v i wr => pdRel w [.slice A1 ps.length c1, .slice A2 bs.length c2, .slice A3 os.length c3] bs v i wr) (fun _ i _ => bs.length - (intOf i).toNat)
    case atStart => exact ⟨0, Nat.zero_le _, rfl, OwnI.nil_ _ _, R1.out, N1.out⟩
    case round =>
      clear R1 N1
      obtain ⟨k, hk, rfl, hown, hbox, hb⟩ := hrel
      have HO2 := Lib.hid hown
      have HB2 := Lib.hid hbox
      have hbl := hbox.lt
      clear hown hbox
      by_cases hlt : k < bs.length
      · obtain ⟨b, off, kind, A, args, cap, vn, ve, un, ue, hA, hbm, hbs, hx, g0, g1, g2, g3, g4, g5, ha, hl⟩ := (HD.out.below hb hm).blk hlt
        dsimp only at hA hx
        subst hA
        clear ha hl
        have HX := Lib.hid (kind_of hx)
        dsimp only at HX
        clear hx
        have hbz := hb.size
        by_cases k2 : kind = 2
        · subst k2
          have HP : isDel bs k = true := by unfold isDel; rw [HX.out]; rfl
          have HP := Lib.hid HP
          go_wp2_with (at_builtin; refine push_int rfl _ _ rfl (w.heap.size + 1) _ (natI (fl (isDel bs) k)) (k : Int) (wr.heap.size + 1) rfl ((HO2.out.alloc _).alloc _) rfl (by simp [go_sem]) (by have := fl_le (isDel bs) k; simp [natI]; omega) (by simp; omega) ?_; intro v' w4 hown hg hb4)
          have hst : Below w.heap.size wr w4 := (((Below.refl _ wr).alloc hbz _).alloc (by simp; omega) _).trans (hb4.mono (by omega))
          have hr4 := ((HB2.out.al _).al _).below hb4 (by omega)
          exact ⟨⟨k + 1, by omega, by go_num, by rw [fl_hit HP.out]; simpa [natI] using hown, hr4, hb.trans hst⟩, by simp [intOf]; omega⟩
        · have HP : isDel bs k = false := by unfold isDel; rw [HX.out]; simpa using k2
          have HP := Lib.hid HP
          have n2 : (kind == 2) = false := by simpa using k2
          clear k2
          go_wp2_with fail
          exact ⟨⟨k + 1, by omega, by go_num, by rw [fl_no HP.out]; exact HO2.out.alloc _, HB2.out.al _, ext_alloc hb _⟩, by simp [intOf]; omega⟩
      · go_wp2_with fail
        have e : k = bs.length := by omega
        subst e
        obtain ⟨A', c', hv, _⟩ := HO2.out.view
        subst hv
        refine bodyPost_ret (v := .tuple #[.slice A' (natI (fl (isDel bs) bs.length)).length c', .nilIface]) (by simp [results, Tryd.results40, go_sem]) rfl ⟨_, by show _ = Ending.returned (.tuple #[_, errV (dgErr ps bs os)]); rw [HE0.out, errV_0], ?_, hb⟩
        rw [HO.out]
        exact HO2.out.base_ (by omega)
  · have HO := Lib.hid (show delO ⟨A1, ps, c1, A2, bs, c2, A3, os, c3⟩ = [] from if_neg (by rw [HE.out]; exact he))
    have HEN := Lib.hid (errV_n he)
    clear he
    rw [HEN.out]
    go_wp2_with fail
    refine bodyPost_ret (v := .tuple #[.slice none 0 0, .iface 33 (.int .i64 E)]) (by simp [results, Tryd.results40, go_sem]) rfl ⟨_, by show _ = Ending.returned (.tuple #[_, errV (dgErr ps bs os)]); rw [HE.out, HEN.out], by rw [HO.out]; exact OwnI.nil_ _ _, N1.out⟩
/- Light. -/
def lightG (d : Dg) : Bool := decide (d.ps.length ≤ 40 ∧ d.bs.length ≤ 80 ∧ d.os.length ≤ 40) && d.bs.all fun b => decide (b.args.length ≤ 10)
def lgRel (w : World) (bs : List Bk) (vs : List Value) (i : Value) (wr : World) : Prop := ∃ k : Nat, k ≤ bs.length ∧ i = .int .i64 k ∧ (bs.take k).all (fun b => decide (b.args.length ≤ 10)) = true ∧ RowD wr w.heap.size vs 41 ∧ Below w.heap.size w wr
theorem all_take {α : Type} {p : α → Bool} {l : List α} {k : Nat} {x : α} (hx : l[k]? = some x) (h : (l.take k).all p = true) (hp : p x = true) : (l.take (k + 1)).all p = true := by
  rw [List.take_add_one, hx, List.all_append, h]
  simp [hp]
end Go.Proofs.YtfooonellkgaeaaDoor
namespace Go.Proofs.YtfooonellkgaeaaDoor
open Go.RowKit
theorem vals_rel {w : World} {S : Sets} {vs xs : List Value} (h : LRel (DRel w S) (vs.map .val) xs) : xs = vs := by
  induction vs generalizing xs with
  | nil => exact h.unnil
  | cons v vs ih =>
    obtain ⟨x, xs', rfl, h1, h2⟩ := (show LRel (DRel w S) (D.val v :: vs.map .val) xs from h).uncons
    cases h1
    rw [ih h2]
theorem rel_vals {w : World} {S : Sets} {vs : List Value} (h : ∀ v ∈ vs, v.oneCell' = true) : LRel (DRel w S) (vs.map .val) vs :=
  ⟨by simp, fun j d v hd hv => by
    simp only [List.getElem?_map, hv, Option.map_some, Option.some.injEq] at hd
    subst hd
    exact .val (h v (List.mem_of_getElem? hv))⟩
theorem row_open {w : World} {S : Sets} (hlt : ∀ t b, S t b → b < w.heap.size) {t : Bool} {s n : Nat} {cs : List D} {v : Value} (h : DRel w S (.row t s n cs) v) :
    ∃ A c xs, v = .slice A n c ∧ (A = none → c = 0) ∧ n ≤ c ∧ cs.length = n * s ∧ LRel (DRel w S) cs xs ∧ CellsAt w w.heap.size A xs := by
  cases h with
  | @row _ _ _ c _ A xs hc hA hl hx hm hr =>
    refine ⟨A, c, xs, rfl, hA, hc, hl, ⟨hx, hr⟩, fun hne => ?_⟩
    obtain ⟨b, off, h1, h2, h3⟩ := hm (fun h0 => hne (by rw [h0] at hx; exact List.eq_nil_of_length_eq_zero (by simpa using hx.symm)))
    exact ⟨b, off, h1, hlt _ _ h2, hlt _ _ h2, h3⟩
theorem row_vals {w : World} {S : Sets} (hlt : ∀ t b, S t b → b < w.heap.size) {t : Bool} {s n : Nat} {vs : List Value} {v : Value} (h : DRel w S (.row t s n (vs.map .val)) v) :
    ∃ A c, v = .slice A n c ∧ (A = none → c = 0) ∧ n ≤ c ∧ vs.length = n * s ∧ CellsAt w w.heap.size A vs := by
  obtain ⟨A, c, xs, h1, h2, h3, h4, h5, h6⟩ := row_open hlt h
  rw [vals_rel h5] at h6
  exact ⟨A, c, h1, h2, h3, by simpa using h4, h6⟩
theorem dI_map (xs : List Int) : xs.map dI = (ints xs).map .val := by simp [ints, dI]
theorem rowI_open {w : World} {S : Sets} (hlt : ∀ t b, S t b → b < w.heap.size) {t : Bool} {xs : List Int} {v : Value} (h : DRel w S (rowI t xs) v) : ∃ A c, v = .slice A xs.length c ∧ (A = none → c = 0) ∧ xs.length ≤ c ∧ CellsAt w w.heap.size A (ints xs) := by
  unfold rowI at h
  rw [dI_map] at h
  obtain ⟨A, c, h1, h2, h3, _, h4⟩ := row_vals hlt h
  exact ⟨A, c, h1, h2, h3, h4⟩
theorem own_fresh {w w' : World} {e s n : Nat} {v : Value} {xs : List Value} (h : w'.ownsRow w.heap.size e s v n xs) (h1 : ∀ u ∈ xs, u.oneCell' = true) : DRel w' (Fresh w w') (.row false s n (xs.map .val)) v := by
  have hl := h.1
  rcases h.2 with ⟨rfl, rfl⟩ | ⟨g, cap, cur, rfl, hb, hg, hnc, hcm, hcs, htk⟩
  · have : xs = [] := List.eq_nil_of_length_eq_zero (by simpa using hl)
    subst this
    exact .row [] (Nat.le_refl _) (fun _ => rfl) (by simp) rfl (fun h => absurd rfl h) (fun j u x h => by simp at h)
  · have hlt := (Array.getElem?_eq_some_iff.1 hg).1
    refine .row xs hnc (by simp) (by simpa using hl) (by simp) (fun _ => ⟨g, 0, rfl, ⟨rfl, hb, hlt⟩, fun j x hj => ?_⟩) (rel_vals h1).2
    rw [Nat.zero_add, own_cell h (List.getElem?_eq_some_iff.1 hj).1]
    exact hj
theorem own_freshI {w w' : World} {v : Value} {xs : List Int} (h : OwnI w' w.heap.size v xs) : DRel w' (Fresh w w') (rowI false xs) v := by
  unfold rowI
  rw [dI_map]
  exact own_fresh h (fun u hu => by obtain ⟨z, _, rfl⟩ := List.mem_map.1 hu; rfl)
def dPrt (p : Prt) : List D := [dI p.lo, dI p.hi, dI p.fr]
def dBk (t : Bool) (b : Bk) : List D := [dI b.kind, rowI t b.args, dI b.vn, dI b.ve, dI b.un, dI b.ue]
def dIns (x : Ins) : List D := [dI x.op, dI x.dst, dI x.a, dI x.b, dI x.sa, dI x.sb, dI x.imm]
def rowP (t : Bool) (ps : List Prt) : D := .row t 3 ps.length (flatD dPrt ps)
def rowB (t : Bool) (bs : List Bk) : D := .row t 6 bs.length (flatD (dBk t) bs)
def rowN (t : Bool) (xs : List Ins) : D := .row t 7 xs.length (flatD dIns xs)
def dDg (t : Bool) (ps : List Prt) (bs : List Bk) (os : List Int) : List D := [rowP t ps, rowB t bs, rowI t os]
def aDg (t : Bool) (ps : List Prt) (bs : List Bk) (os : List Int) : A := .agg (dDg t ps bs os)
def aE (n : Int) : A := .one (.val (errV n))
theorem errV_one (n : Int) : (errV n).oneCell' = true := by unfold errV; split <;> rfl
theorem flatD_vals {α : Type} {f : α → List D} {g : α → List Value} (h : ∀ x, f x = (g x).map .val) (l : List α) : flatD f l = (flat g l).map .val := by
  induction l with
  | nil => rfl
  | cons x l ih =>
    simp only [flatD, flat, List.map_cons, List.flatten_cons, List.map_append] at ih ⊢
    rw [ih, h]
theorem dPrt_vals (p : Prt) : dPrt p = (Prt.cells p).map .val := rfl
def Bk.z (b : Bk) : Bk := { b with A := none, cap := 0 }
section
variable (bs : List Bk)
theorem bk_z (i : Nat) : ((bs.map Bk.z)[i]?.getD bk0) = (bs[i]?.getD bk0).z := by
  rw [List.getElem?_map]
  cases bs[i]? <;> rfl
theorem kindAt_z : kindAt (bs.map Bk.z) = kindAt bs := funext fun i => by unfold kindAt; rw [bk_z]; rfl
theorem argsAt_z : argsAt (bs.map Bk.z) = argsAt bs := funext fun i => by unfold argsAt; rw [bk_z]; rfl
theorem preds_z : preds (bs.map Bk.z) = preds bs := funext fun i => by unfold preds; rw [kindAt_z, argsAt_z]
theorem doneB_z : doneB (bs.map Bk.z) = doneB bs := funext fun o => funext fun j => by unfold doneB; rw [kindAt_z]
theorem rdy_z : rdy (bs.map Bk.z) = rdy bs := funext fun o => funext fun j => by unfold rdy; rw [doneB_z, preds_z]
theorem nxt_z : nxt (bs.map Bk.z) = nxt bs := funext fun o => by unfold nxt; rw [rdy_z, List.length_map]
theorem ordN_z : ∀ f o, ordN (bs.map Bk.z) f o = ordN bs f o
  | 0, o => rfl
  | f + 1, o => by
    unfold ordN
    rw [nxt_z]
    cases nxt bs o with
    | none => rfl
    | some i => exact ordN_z f _
theorem ordM_z : ordM (bs.map Bk.z) = ordM bs := by unfold ordM; rw [ordN_z, List.length_map]
theorem nonDel_z : nonDel (bs.map Bk.z) = nonDel bs := by unfold nonDel; rw [kindAt_z, List.length_map]
theorem delL_z : delL (bs.map Bk.z) = delL bs := by unfold delL; rw [kindAt_z, List.length_map]
theorem ordErr_z : ordErr (bs.map Bk.z) = ordErr bs := by unfold ordErr; rw [ordM_z, nonDel_z]
theorem dgErr_z (ps : List Prt) (os : List Int) : dgErr ps (bs.map Bk.z) os = dgErr ps bs os := by
  have h1 : sizeOk ps (bs.map Bk.z) os = sizeOk ps bs os := by unfold sizeOk; rw [List.length_map]
  have h2 : preErr ps (bs.map Bk.z) os = preErr ps bs os := by
    unfold preErr
    rw [List.length_map, List.map_map]
    rfl
  unfold dgErr
  simp only [h1, h2, ordErr_z]
end
theorem bk_open {w : World} {S : Sets} {t : Bool} (hlt : ∀ t b, S t b → b < w.heap.size) : ∀ {bs : List Bk} {xs : List Value}, LRel (DRel w S) (flatD (dBk t) bs) xs → ∃ bs', xs = flat Bk.cells bs' ∧ bs'.map Bk.z = bs.map Bk.z ∧ ∀ b ∈ bs', CellsAt w w.heap.size b.A (ints b.args)
  | [], xs, h => by
    have := (show LRel (DRel w S) [] xs from h).unnil
    exact ⟨[], this, rfl, by simp⟩
  | b :: bs, xs, h => by
    have h' : LRel (DRel w S) (dI b.kind :: rowI t b.args :: dI b.vn :: dI b.ve :: dI b.un :: dI b.ue :: flatD (dBk t) bs) xs := h
    obtain ⟨v0, x1, rfl, q0, h⟩ := h'.uncons
    obtain ⟨v1, x2, rfl, q1, h⟩ := h.uncons
    obtain ⟨v2, x3, rfl, q2, h⟩ := h.uncons
    obtain ⟨v3, x4, rfl, q3, h⟩ := h.uncons
    obtain ⟨v4, x5, rfl, q4, h⟩ := h.uncons
    obtain ⟨v5, x6, rfl, q5, h⟩ := h.uncons
    obtain ⟨bs', rfl, h2, h3⟩ := bk_open hlt h
    obtain ⟨A, c, rfl, _, _, hc⟩ := rowI_open hlt q1
    cases q0; cases q2; cases q3; cases q4; cases q5
    refine ⟨⟨b.kind, A, b.args, c, b.vn, b.ve, b.un, b.ue⟩ :: bs', rfl, ?_, fun x hx => ?_⟩
    · simp only [List.map_cons, h2]
      rfl
    · rcases List.mem_cons.1 hx with rfl | hx
      · exact hc
      · exact h3 x hx
structure DgLen (ps : List Prt) (bs : List Bk) (os : List Int) : Prop where
  l1 : ps.length ≤ 1000000
  l2 : bs.length ≤ 1000000
  l3 : os.length ≤ 1000000
  la : ∀ b ∈ bs, b.args.length ≤ 1000000
theorem dg_open {w : World} {S : Sets} (hlt : ∀ t b, S t b → b < w.heap.size) {t : Bool} {ps : List Prt} {bs : List Bk} {os : List Int} {v : Value} (h : ARel w S (aDg t ps bs os) v) (hl : DgLen ps bs os) :
    ∃ d : Dg, v = d.val ∧ DgAt w w.heap.size d ∧ d.ps = ps ∧ d.bs.map Bk.z = bs.map Bk.z ∧ d.os = os ∧ (d.A1 = none → d.c1 = 0) ∧ (d.A3 = none → d.c3 = 0) := by
  obtain ⟨xs, rfl, hl0⟩ := h
  obtain ⟨v0, x1, rfl, q0, h⟩ := LRel.uncons hl0
  obtain ⟨v1, x2, rfl, q1, h⟩ := h.uncons
  obtain ⟨v2, x3, rfl, q2, h⟩ := h.uncons
  have := h.unnil
  subst this
  unfold rowP at q0
  rw [flatD_vals dPrt_vals] at q0
  obtain ⟨A1, c1, rfl, n1, _, _, k1⟩ := row_vals hlt q0
  obtain ⟨A2, c2, ys, rfl, _, _, hlen, hr, k2⟩ := row_open hlt q1
  obtain ⟨bs', rfl, h2, h3⟩ := bk_open hlt hr
  obtain ⟨A3, c3, rfl, n3, _, k3⟩ := rowI_open hlt q2
  have hbl : bs'.length = bs.length := by have := congrArg List.length h2; simpa using this
  refine ⟨⟨A1, ps, c1, A2, bs', c2, A3, os, c3⟩, ?_, ⟨k1, k2, k3, fun b hb => ⟨h3 b hb, ?_⟩, hl.l1, by show bs'.length ≤ _; rw [hbl]; exact hl.l2, hl.l3⟩, rfl, h2, rfl, n1, n3⟩
  · simp [Dg.val, hbl]
  · have hz : b.z ∈ bs.map Bk.z := by rw [← h2]; exact List.mem_map_of_mem hb
    obtain ⟨b0, hb0, he⟩ := List.mem_map.1 hz
    have : b.args = b0.args := (congrArg Bk.args he).symm
    rw [this]
    exact hl.la b0 hb0
theorem tab_G (w w' : World) (h : Below w.heap.size w w') (ht : TabAt w) : TabAt w' := ht.call h
theorem two_rel {w : World} {S : Sets} {x y : A} {a b : Value} (h1 : ARel w S x a) (h2 : ARel w S y b) : RRel w S [x, y] (.tuple #[a, b]) := ⟨[a, b], rfl, .cons_ h1 (.cons_ h2 .nil_)⟩
theorem one_arg {w : World} {S : Sets} {x : A} {vs : List Value} (h : LRel (ARel w S) [x] vs) : ∃ v, vs = [v] ∧ ARel w S x v := by
  obtain ⟨v, vs', rfl, h1, h2⟩ := h.uncons
  rw [h2.unnil]
  exact ⟨v, rfl, h1⟩
theorem order_cv (t : Bool) {ps : List Prt} {bs : List Bk} {os : List Int} (hl : DgLen ps bs os) : CVF Tryd.prog TabAt 42 [aDg t ps bs os] [.one (rowI false (if dgErr ps bs os = 0 then natI (ordM bs) else [])), aE (dgErr ps bs os)] := fun w S vs hg hlt ha => by
  obtain ⟨v, rfl, hv⟩ := one_arg ha
  obtain ⟨d, rfl, hd, rfl, hz, rfl, _, _⟩ := dg_open hlt hv hl
  refine (Order_any d _ w (Nat.le_refl _) hd hg).mono fun e w' ⟨so, he, hown, hb⟩ => ?_
  have e1 : dgErr d.ps d.bs d.os = dgErr d.ps bs d.os := by rw [← dgErr_z, hz, dgErr_z]
  have e2 : ordM d.bs = ordM bs := by rw [← ordM_z, hz, ordM_z]
  unfold ordO at hown
  rw [e1, e2] at hown
  unfold dgE at he
  rw [e1] at he
  exact ⟨_, he, two_rel (own_freshI hown) (DRel.val (errV_one _)), hb⟩
theorem delays_cv (t : Bool) {ps : List Prt} {bs : List Bk} {os : List Int} (hl : DgLen ps bs os) : CVF Tryd.prog TabAt 40 [aDg t ps bs os] [.one (rowI false (if dgErr ps bs os = 0 then natI (delL bs) else [])), aE (dgErr ps bs os)] := fun w S vs hg hlt ha => by
  obtain ⟨v, rfl, hv⟩ := one_arg ha
  obtain ⟨d, rfl, hd, rfl, hz, rfl, _, _⟩ := dg_open hlt hv hl
  refine (Delays_any d _ w (Nat.le_refl _) hd hg).mono fun e w' ⟨so, he, hown, hb⟩ => ?_
  have e1 : dgErr d.ps d.bs d.os = dgErr d.ps bs d.os := by rw [← dgErr_z, hz, dgErr_z]
  have e2 : delL d.bs = delL bs := by rw [← delL_z, hz, delL_z]
  unfold delO at hown
  rw [e1, e2] at hown
  unfold dgE at he
  rw [e1] at he
  exact ⟨_, he, two_rel (own_freshI hown) (DRel.val (errV_one _)), hb⟩
theorem bk_at {t : Bool} {bs : List Bk} {k : Nat} {y : Bk} (h : bs[k]? = some y) : ((flatD (dBk t) bs).drop (k * 6)).take 6 = dBk t y := flatD_at (f := dBk t) (s := 6) (fun _ => rfl) h
theorem prt_at {ps : List Prt} {k : Nat} {y : Prt} (h : ps[k]? = some y) : ((flatD dPrt ps).drop (k * 3)).take 3 = dPrt y := flatD_at (f := dPrt) (s := 3) (fun _ => rfl) h
theorem int_at {xs : List Int} {k : Nat} {z : Int} (h : xs[k]? = some z) : ((xs.map dI).drop (k * 1)).take 1 = [dI z] := map_at h
inductive DTag (t : Bool) : D → Prop
  | val (v : Value) : DTag t (.val v)
  | row {s n : Nat} {cs : List D} (h : ∀ d ∈ cs, DTag t d) : DTag t (.row t s n cs)
  | ptr {cs : List D} (h : ∀ d ∈ cs, DTag t d) : DTag t (.ptr t cs)
def ATag (t : Bool) : A → Prop
  | .one d => DTag t d
  | .agg ds => ∀ d ∈ ds, DTag t d
theorem flatD_free {α : Type} {f : α → List D} (hf : ∀ x, ∀ d ∈ f x, DFree d) (l : List α) : ∀ d ∈ flatD f l, DFree d := fun d hd => by
  obtain ⟨ds, h1, h2⟩ := List.mem_flatten.1 hd
  obtain ⟨x, _, rfl⟩ := List.mem_map.1 h1
  exact hf x d h2
section
variable {P : Program} {G : World → Prop} {o : Oper} {F : Frm} {H : List Ob}
theorem ok_neqE {t t' : TypeId} {x : Operand} {E : Int} {b : Bool} (ho : o.op = .binOp .neq t x (.const .nilIface) t') (ht : TyI P t) (hx : F.ev x = .one (.d (.val (errV E)))) (hb : (E != 0) = b) : OpOk P G o F H (.one (.d (.val (.bool b)))) [] := by
  by_cases h : E = 0
  · refine ok_nilN ho ht hx (.inr (.inl ⟨rfl, ?_, ?_⟩))
    · rw [h, errV_0]
    · rw [← hb, bne_f h]
  · refine ok_nilN ho ht hx (.inr (.inr (.inr ⟨rfl, ⟨_, _, errV_n h⟩, ?_⟩)))
    rw [← hb, bne_t h]
theorem ok_eqlE {t t' : TypeId} {x : Operand} {E : Int} {b : Bool} (ho : o.op = .binOp .eql t x (.const .nilIface) t') (ht : TyI P t) (hx : F.ev x = .one (.d (.val (errV E)))) (hb : (E == 0) = b) : OpOk P G o F H (.one (.d (.val (.bool b)))) [] := by
  by_cases h : E = 0
  · refine ok_nilN ho ht hx (.inl ⟨rfl, ?_, ?_⟩)
    · rw [h, errV_0]
    · rw [← hb, beq_t h]
  · refine ok_nilN ho ht hx (.inr (.inr (.inl ⟨rfl, ⟨_, _, errV_n h⟩, ?_⟩)))
    rw [← hb, beq_f h]
theorem rv_e {t : Tmp} {E E' : Int} (hF : F t = .one (.d (.val (errV E)))) (hz : E = E') : RV P F H (.tmp t) (aE E') := .tmp (by rw [hF, hz]; exact .one (.d fun _ => .val _))
theorem rv_e0 {t : Tmp} {E' : Int} (hF : F t = .one (.d (.val .nilIface))) (hz : E' = 0) : RV P F H (.tmp t) (aE E') := .tmp (by rw [hF, hz]; exact .one (.d fun _ => .val _))
theorem rv_en {t : Tmp} {n E' : Int} (hF : F t = .one (.d (.val (.iface 33 (.int .i64 n))))) (h0 : n ≠ 0) (hz : E' = n) : RV P F H (.tmp t) (aE E') := .tmp (by rw [hF, hz, ← errV_n h0]; exact .one (.d fun _ => .val _))
theorem rv_box {t : Tmp} {ty ty' id k : Nat} {cs : List C} {ds : List D} {y : A} (hF : F t = .one (.ref id 0 none)) (hH : H[id]? = some (.box ty' cs)) (hk : TyK P ty true k) (hi : cs.length = k) (hy : y = .agg ds) (h : LRel (CExp false H) cs ds) : RV P F H (.cell t ty) y := by
  obtain ⟨d, h1, h2⟩ := hk.h
  rw [hy]
  exact .cellA hF hH h1 h2 (by rw [hk.s, hi]) h
end
theorem cvz {f : FuncId} {fn : Func} {c : Code} {N : Nat} {args res : List A} (hf : Tryd.prog.funcs[f]? = some fn) (hN : fn.ntmps = N) (k : CW Tryd.prog TabAt N c (F0 args) [] (RetQ Tryd.prog fn res)) (hb : fn.body = some c := by exact rfl) (ha : args.length ≤ N := by exact Nat.le_of_ble_eq_true rfl) : CV Tryd.prog TabAt f args res := cv_of tab_G hf hb hN ha k
section
variable {P : Program} {G : World → Prop} {o : Oper} {F : Frm} {H : List Ob}
theorem xNE {t t' : TypeId} {x : Operand} {E : Int} {b : Bool} (ht : TyI P t) (ho : o.op = .binOp .neq t x (.const .nilIface) t' := by with_unfolding_all exact rfl) (hx : F.ev x = .one (.d (.val (errV E))) := by with_unfolding_all exact rfl) (hb : (E != 0) = b := by first | exact bne_f rfl | exact bne_f (by omega) | exact bne_t (by first | assumption | omega) | exact rfl) : OpOk P G o F H (.one (.d (.val (.bool b)))) [] := ok_neqE ho ht hx hb
theorem xNt {t : TypeId} {x : Operand} {b : Bool} (ho : o.op = .unOp .not t x := by with_unfolding_all exact rfl) (hx : F.ev x = .one (.d (.val (.bool b))) := by with_unfolding_all exact rfl) : OpOk P G o F H (.one (.d (.val (.bool (!b))))) [] := ok_not ho hx
theorem xNg {t : TypeId} {x : Operand} {p : Int} (ho : o.op = .unOp .neg t x := by with_unfolding_all exact rfl) (hx : F.ev x = .one (.d (.val (.int .i64 p))) := by with_unfolding_all exact rfl) (hb : -9223372036854775807 ≤ p ∧ p ≤ 9223372036854775807 := by omega) : OpOk P G o F H (.one (.d (.val (.int .i64 (-p))))) [] := ok_neg64 ho hx hb
theorem xM1 {x : Operand} {c : C} (ho : o.op = .move x := by with_unfolding_all exact rfl) (hx : F.ev x = .one c := by with_unfolding_all exact rfl) : OpOk P G o F H (.one c) [] := ok_mv1 ho hx
theorem xMt {x : Operand} {l : List A} (ho : o.op = .move x := by with_unfolding_all exact rfl) (hx : F.ev x = .tup l := by with_unfolding_all exact rfl) : OpOk P G o F H (.tup l) [] := ok_mvT ho hx
theorem xAl {t : TypeId} {z : Value} {k by_ : Nat} (hz : TyZ P t z k by_) (ho : o.op = .alloc t := by with_unfolding_all exact rfl) : OpOk P G o F H (.one (.ref H.length 0 none)) [.box t (valsC z.cells.toList)] := ok_alloc ho hz
end
theorem add32_any (x y c : Nat) (w : World) (hx : x < 4294967296) (hy : y < 4294967296) (hc : c ≤ 1) :
    Calls Tryd.prog 107 #[.int .u32 (x : Int), .int .u32 (y : Int), .int .u32 (c : Int)] w fun e w' => e = .returned (.tuple #[.int .u32 (((x + y + c) % 4294967296 : Nat) : Int), .int .u32 (((x + y + c) / 4294967296 : Nat) : Int)]) ∧ w = w' := by
  have h1 : (x : Int) % 18446744073709551616 = (x : Int) := by omega
  have h2 : (y : Int) % 18446744073709551616 = (y : Int) := by omega
  have h3 : (c : Int) % 18446744073709551616 = (c : Int) := by omega
  obtain ⟨s, hs⟩ : ∃ s : Nat, (x : Int) + (y : Int) + (c : Int) = (s : Int) := ⟨x + y + c, by omega⟩
  have hs2 : x + y + c = s := by omega
  have hsb : s < 8589934592 := by omega
  rw [hs2]
  go_enter Tryd.func107, Tryd.ntmps107
  go_wp2_with fail
  refine bodyPost_ret (v := .tuple #[.int .u32 ((s % 4294967296 : Nat) : Int), .int .u32 ((s / 4294967296 : Nat) : Int)]) ?_ rfl ⟨rfl, rfl⟩
  simp [results, Tryd.results107, go_sem]
def paRel (w : World) (a b : List Nat) (g L : Nat) (cv i : Value) (wr : World) : Prop :=
  ∃ (k : Nat) (os : List Nat) (cy : Nat), k ≤ L ∧ i = .int .i64 (k : Int) ∧ cv = .int .u32 (cy : Int) ∧ OwnW wr w.heap.size (.slice (some ⟨g, 0, none⟩) L L) (os ++ List.replicate (L - k) 0) ∧ os.length = k ∧ wordsOk os ∧ cy ≤ 1 ∧
    wval os + 4294967296 ^ k * cy = wval (a.take k) + wval (b.take k) ∧ Below w.heap.size w wr
end Go.Proofs.YtfooonellkgaeaaDoor
namespace Go.Proofs.YtfooonellkgaeaaDoor
open Go.RowKit
def puRel (w : World) (a : List Nat) (u i : Value) (wr : World) : Prop := ∃ k : Nat, k ≤ a.length ∧ i = .int .i64 ((k : Int) - 1) ∧ u = .int .u64 (wval (a.drop k) : Int) ∧ w = wr
end Go.Proofs.YtfooonellkgaeaaDoor
namespace Go.Proofs.YtfooonellkgaeaaDoor
open Go.RowKit
def i64In (x : Int) : Bool := decide (-9223372036854775808 ≤ x ∧ x < 9223372036854775808)
def i64V (x : Int) : Int := if i64In x = true then x else 0
end Go.Proofs.YtfooonellkgaeaaDoor
namespace Go.Proofs.YtfooonellkgaeaaDoor
open Go.RowKit
end Go.Proofs.YtfooonellkgaeaaDoor
namespace Go.Proofs.YtfooonellkgaeaaDoor
open Go.RowKit
def NoWd (vs : List Value) : Prop := ∀ u ∈ vs, ∀ z, u ≠ .int .u32 z
def shE (x k : Int) : Int := if k < 0 then x / 2 ^ (-k).toNat else x * 2 ^ k.toNat
def rawOk (n e f : Int) : Prop := -2147483648 < n ∧ n < 2147483648 ∧ -62 ≤ e ∧ e ≤ 30 ∧ 0 ≤ f ∧ f ≤ 30
instance (n e f : Int) : Decidable (rawOk n e f) := by unfold rawOk; infer_instance
def rawErr (n e f : Int) : Int := if rawOk n e f then (if -2147483648 ≤ shE n (e + f) ∧ shE n (e + f) < 2147483648 then 0 else 13) else 3
def rawV (n e f : Int) : Int := if rawErr n e f = 0 then shE n (e + f) else 0
end Go.Proofs.YtfooonellkgaeaaDoor
namespace Go.Proofs.YtfooonellkgaeaaDoor
open Go.RowKit
end Go.Proofs.YtfooonellkgaeaaDoor
namespace Go.Proofs.YtfooonellkgaeaaDoor
open Go.RowKit
def fitV (n : Int) : Int := max (-2147483648) (min n 2147483647)
def fitB (n : Int) : Bool := decide (-2147483648 ≤ n ∧ n < 2147483648)
end Go.Proofs.YtfooonellkgaeaaDoor
namespace Go.Proofs.YtfooonellkgaeaaDoor
open Go.RowKit
end Go.Proofs.YtfooonellkgaeaaDoor
namespace Go.Proofs.YtfooonellkgaeaaDoor
open Go.RowKit
def wds (x : Int) : List D := (w32 (canon x.natAbs)).map D.val
def dDy (t : Bool) (x : Int) (d : Nat) : List D := [.val (.bool (decide (x < 0))), .row t 1 (canon x.natAbs).length (wds x), .val (.int .i64 (d : Int))]
def aDy (t : Bool) (x : Int) (d : Nat) : A := .agg (dDy t x d)
def Nf (x : Int) (d : Nat) : Prop := d ≤ 65536 ∧ (d ≠ 0 → x % 2 = 1)
theorem dy_in {w : World} {S : Sets} {t : Bool} {x : Int} {d : Nat} {v : Value} (h : ARel w S (aDy t x d) v) (hS : ∀ t b, S t b → b < w.heap.size) (hn : Nf x d) : DyR w 0 w.heap.size v x d := by
  obtain ⟨xs, rfl, h1⟩ := h
  obtain ⟨a, l1, rfl, ha, h2⟩ := h1.uncons
  obtain ⟨b, l2, rfl, hb, h3⟩ := h2.uncons
  obtain ⟨c, l3, rfl, hc, h4⟩ := h3.uncons
  rw [h4.unnil]
  cases ha
  cases hc
  cases hb with
  | @row _ _ _ c cs A xs hc hA hl hx hm hr =>
    have hw : xs = w32 (canon x.natAbs) := vals_rel (vs := w32 (canon x.natAbs)) ⟨hx, hr⟩
    subst hw
    refine ⟨A, c, rfl, hA, hc, fun hne => ?_, fun a _ => Nat.zero_le _, hn.1, hn.2⟩
    obtain ⟨b, off, rfl, hb, hcell⟩ := hm (fun h => hne (List.map_eq_nil_iff.1 h))
    exact ⟨b, off, rfl, hS _ _ hb, hS _ _ hb, hcell⟩
theorem w32_one {l : List Nat} {v : Value} (h : v ∈ w32 l) : v.oneCell' = true := by
  simp only [w32, List.mem_map] at h
  obtain ⟨n, _, rfl⟩ := h
  rfl
theorem dy_out {w w' : World} {v : Value} {x : Int} {d : Nat} (h : DyR w' w.heap.size w'.heap.size v x d) : ARel w' (Fresh w w') (aDy false x d) v := by
  obtain ⟨A, c, rfl, h1, h2, h3, h4, h5, h6⟩ := h
  refine ⟨[.bool (decide (x < 0)), .slice A (canon x.natAbs).length c, .int .i64 (d : Int)], rfl, .cons_ (.val rfl) (.cons_ (.row (w32 (canon x.natAbs)) h2 h1 ?_ ?_ ?_ ?_) (.cons_ (.val rfl) .nil_))⟩
  · rw [wds, List.length_map, w32_len, Nat.mul_one]
  · rw [wds, List.length_map]
  · intro hne
    obtain ⟨b, off, rfl, h7, h8, h9⟩ := h3 (fun h => hne (by rw [wds, h]; rfl))
    exact ⟨b, off, rfl, ⟨rfl, h4 _ rfl, h8⟩, h9⟩
  · intro j u y hu hy
    rw [wds, List.getElem?_map, hy] at hu
    cases hu
    exact .val (w32_one (List.mem_of_getElem? hy))
theorem Nf.nf {m : Int} {p : Nat} (h : p ≤ 65536) : Nf (nf m p).1 (nf m p).2 := ⟨Nat.le_trans (nf_le m p) h, nf_odd m p⟩
theorem sgI_eq {a b : Int} {p q : Nat} (h : a * 2 ^ p = b * 2 ^ q) : sgI a = sgI b := by rw [← sgI_mul a p, h, sgI_mul b q]
theorem cmp_sgn {a b A B : Int} {da db q : Nat} (ha : a * 2 ^ q = A * 2 ^ da) (hb : b * 2 ^ q = B * 2 ^ db) : dyCmp a da b db = sgI (A - B) := by
  unfold dyCmp dySum
  rw [sgI_eq (nf_eq _ _)]
  refine sgI_eq (p := q) (q := max da db) ?_
  have e1 : a * 2 ^ (max da db - da) * 2 ^ q = A * 2 ^ max da db := by
    rw [Int.mul_right_comm, ha, Int.mul_assoc, ← Int.pow_add]; congr 2; omega
  have e2 : b * 2 ^ (max da db - db) * 2 ^ q = B * 2 ^ max da db := by
    rw [Int.mul_right_comm, hb, Int.mul_assoc, ← Int.pow_add]; congr 2; omega
  rw [Int.add_mul, Int.neg_mul, Int.neg_mul, e1, e2, Int.sub_mul]
  omega
def dW (n : Nat) : D := .val (.int .u32 (n : Int))
def rowW (t : Bool) (ws : List Nat) : D := .row t 1 ws.length (ws.map dW)
def cW (ws : List Nat) : List C := ws.map fun n => .d (dW n)
theorem w32_D (ws : List Nat) : (w32 ws).map D.val = ws.map dW := by simp [w32, dW]
theorem cW_zero (n : Nat) : valsC (madeCells (Value.int .u32 0).cells (n * 1)).toList = cW (List.replicate n 0) := by
  rw [Nat.mul_one, show (Value.int .u32 0).cells = #[Value.int .u32 0] from rfl, toList_madeCells_one]
  simp [valsC, cW, dW]
theorem bel_cW {n : Nat} {l : List Nat} : ∀ c ∈ cW l, C.bel n c := fun c hc => by obtain ⟨z, _, rfl⟩ := List.mem_map.1 hc; trivial
theorem word_at {ws : List Nat} {k x : Nat} (h : ws[k]? = some x) : ((ws.map dW).drop (k * 1)).take 1 = [dW x] := map_at h
section
variable {P : Program} {G : World → Prop} {o : Oper} {F : Frm} {H : List Ob}
theorem ok_makeW {t e : TypeId} {x y : Operand} {by_ n : Nat} {k k' : IntKind} {z : Int} (ho : o.op = .makeSlice t x y) (hx : F.ev x = .one (.d (.val (.int k z)))) (hy : F.ev y = .one (.d (.val (.int k' z)))) (hz' : z = (n : Int)) (ht : TyS P t e 1) (hz : TyZ P e (.int .u32 0) 1 by_) (hn : n ≤ 1000000) (hby : by_ ≤ 1000) :
    OpOk P G o F H (.one (.own H.length n)) [.row e 1 n (cW (List.replicate n 0))] := by
  subst hz'
  have := ok_makeSlice (P := P) (G := G) (H := H) ho hx hy ht hz hn hby
  rwa [cW_zero] at this
theorem ok_ldW {t ty : TypeId} {x : Operand} {id s n i k : Nat} {xs : List Nat} {z : Nat} (ho : o.op = .load t x) (hx : F.ev x = .one (.ref id (i * 1) (some n))) (hH : H[id]? = some (.row ty s n (cW xs))) (hz : xs[i]? = some z) (hk : TyK P t false k) : OpOk P G o F H (.one (.d (.val (.int .u32 (z : Int))))) [] :=
  ok_load1 ho hx (.row hH) (by simp [cW, hz, dW]) hk
theorem to_stW {t ty : TypeId} {x y : Operand} {id s n i : Nat} {xs : List Nat} {z : Int} {u : Nat} {b : Bool} (ho : o.op = .store t x y) (hx : F.ev x = .one (.ref id (i * 1) (some n))) (hH : H[id]? = some (.row ty s n (cW xs))) (hy : F.ev y = .one (.d (.val (.int .u32 z)))) (hz : z = (u : Int)) (hty : TyK P t b 1) (hi : i < xs.length) {ys : List Nat} (hys : xs.set i u = ys) : TOk P G o F H .any (H.set id (.row ty s n (cW ys))) := by
  subst hz
  have := to_store1 (P := P) (G := G) ho hx hH rfl hy hty (by simp [Ob.cs, cW, hi])
  have e : (cW xs).set (i * 1) (.d (.val (.int .u32 (u : Int)))) = cW ys := by rw [← hys, Nat.mul_one]; simp [cW, List.map_set, dW]
  simp only [Ob.cs, Ob.setC, e] at this
  exact this
theorem ok_convR {s t : TypeId} {x : Operand} {k k' : IntKind} {p r : Int} (ho : o.op = .convert s t x) (hs : P.underlying s = some (.int k)) (ht : P.underlying t = some (.int k')) (hx : F.ev x = .one (.d (.val (.int k p)))) (hr : k'.wrap p = r) : OpOk P G o F H (.one (.d (.val (.int k' r)))) [] := hr ▸ ok_conv ho hs ht hx
theorem ok_mulR {t t' : TypeId} {x y : Operand} {k : IntKind} {p q r : Int} (ho : o.op = .binOp .mul t x y t') (hx : F.ev x = .one (.d (.val (.int k p)))) (hy : F.ev y = .one (.d (.val (.int k q)))) (hr : k.wrap (p * q) = r) : OpOk P G o F H (.one (.d (.val (.int k r)))) [] := hr ▸ ok_mul ho hx hy
theorem ok_addR {t t' : TypeId} {x y : Operand} {k : IntKind} {p q r : Int} (ho : o.op = .binOp .add t x y t') (hx : F.ev x = .one (.d (.val (.int k p)))) (hy : F.ev y = .one (.d (.val (.int k q)))) (hr : k.wrap (p + q) = r) : OpOk P G o F H (.one (.d (.val (.int k r)))) [] := hr ▸ ok_add ho hx hy
theorem ok_shr32 {t t' : TypeId} {x : Operand} {k' : IntKind} {p : Nat} {r : Int} (ho : o.op = .binOp .shr t x (.const (.int k' 32)) t') (hx : F.ev x = .one (.d (.val (.int .u64 (p : Int))))) (hr : ((p / 4294967296 : Nat) : Int) = r) : OpOk P G o F H (.one (.d (.val (.int .u64 r)))) [] := by
  subst hr
  refine ok_bin (y := .const (.int k' 32)) (u' := .int k' 32) ho hx rfl (fun w => ?_) rfl
  have e : (p : Int).fdiv 4294967296 = ((p / 4294967296 : Nat) : Int) := by rw [Int.fdiv_eq_ediv_of_nonneg _ (by decide)]; rfl
  simp [eqGuard, binOp, Op.shift, IntKind.bits, e]
theorem ok_neqB {t t' : TypeId} {x y : Operand} {p q : Bool} (ho : o.op = .binOp .neq t x y t') (ht : P.underlying t = some .bool) (hx : F.ev x = .one (.d (.val (.bool p)))) (hy : F.ev y = .one (.d (.val (.bool q)))) : OpOk P G o F H (.one (.d (.val (.bool (p != q))))) [] := by
  refine ok_bin ho hx hy (fun w => ?_) rfl
  have h1 : (Op.equal t (.bool p) (.bool q)).run P w = .ok (p == q) w := by
    have key : ∀ d : Nat, (Op.equalIn (d + 1) t (.bool p) (.bool q)).run P w = .ok (p == q) w := fun d => by simp [Op.equalIn, run_underlying ht]
    exact key 9999
  simp [eqGuard, binOp, h1, bne]
end
theorem u64_in {z : Int} (h0 : 0 ≤ z) (h1 : z < 18446744073709551616) : IntKind.wrap .u64 z = z := by rw [IntKind.wrap_u64]; omega
theorem u32_cut (n : Nat) : IntKind.wrap .u32 (n : Int) = ((n % 4294967296 : Nat) : Int) := by rw [IntKind.wrap_u32]; omega
theorem wval_set {o : List Nat} : ∀ {j u v : Nat}, o[j]? = some v → wval (o.set j u) + v * 4294967296 ^ j = wval o + u * 4294967296 ^ j := by
  induction o with
  | nil => intro j u v h; simp at h
  | cons y o ih =>
    intro j u v h
    cases j with
    | zero =>
      simp only [List.getElem?_cons_zero, Option.some.injEq] at h
      subst h
      simp only [List.set_cons_zero, wval]
      omega
    | succ j =>
      simp only [List.getElem?_cons_succ] at h
      have := ih (u := u) h
      simp only [List.set_cons_succ, wval, Nat.pow_succ]
      rw [← Nat.mul_assoc, ← Nat.mul_assoc]
      omega
theorem words_set {o : List Nat} {j u : Nat} (h : wordsOk o) (hu : u < 4294967296) : wordsOk (o.set j u) := fun x hx => by
  rcases List.mem_or_eq_of_mem_set hx with hx | rfl
  · exact h x hx
  · exact hu
structure MulIn (b o0 : List Nat) (i x k : Nat) (o : List Nat) (c : Nat) : Prop where
  len : o.length = o0.length
  ok : wordsOk o
  car : c < 4294967296
  val : wval o + c * 4294967296 ^ (i + k) = wval o0 + x * wval (b.take k) * 4294967296 ^ i
  zero : ∀ j, i + b.length ≤ j → j < o0.length → o[j]? = some 0
theorem MulIn.fit {b o0 : List Nat} {i x k : Nat} {o : List Nat} {c y u : Nat} (h : MulIn b o0 i x k o c) (hx : x < 4294967296) (hy : y < 4294967296) (hu : o[i + k]? = some u) : x * y + u < 18446744073709551616 ∧ c + (x * y + u) < 18446744073709551616 := by
  have h1 : x * y ≤ 4294967295 * 4294967295 := Nat.mul_le_mul (by omega) (by omega)
  have h2 := h.ok u (List.mem_of_getElem? hu)
  have h3 := h.car
  omega
theorem MulIn.step {b o0 : List Nat} {i x k : Nat} {o : List Nat} {c y u : Nat} (h : MulIn b o0 i x k o c) (hx : x < 4294967296) (hb : wordsOk b) (hy : b[k]? = some y) (hu : o[i + k]? = some u) : MulIn b o0 i x (k + 1) (o.set (i + k) ((c + (x * y + u)) % 4294967296)) ((c + (x * y + u)) / 4294967296) := by
  obtain ⟨f1, f2⟩ := h.fit hx (hb y (List.mem_of_getElem? hy)) hu
  have hkb := (List.getElem?_eq_some_iff.1 hy).1
  refine ⟨by rw [List.length_set]; exact h.len, words_set h.ok (by omega), by omega, ?_, fun j h1 h2 => by rw [List.getElem?_set, if_neg (by omega)]; exact h.zero j h1 h2⟩
  have hs := wval_set (u := (c + (x * y + u)) % 4294967296) hu
  have hv := h.val
  have ht := wval_take_succ b k
  rw [hy, Option.getD_some] at ht
  have hdm := Nat.div_add_mod (c + (x * y + u)) 4294967296
  rw [ht, Nat.mul_add, Nat.add_mul, show i + (k + 1) = (i + k) + 1 by omega, Nat.pow_succ]
  generalize hP : 4294967296 ^ (i + k) = p at hs hv ⊢
  have e1 : x * (4294967296 ^ k * y) * 4294967296 ^ i = x * y * p := by
    rw [← hP, Nat.pow_add]
    simp only [Nat.mul_assoc, Nat.mul_comm, Nat.mul_left_comm]
  rw [e1]
  generalize (c + (x * y + u)) / 4294967296 = q at hdm ⊢
  generalize (c + (x * y + u)) % 4294967296 = r at hs hdm ⊢
  have e2 : q * (p * 4294967296) + r * p = (c + (x * y + u)) * p := by
    rw [← hdm, Nat.add_mul, Nat.mul_comm p 4294967296, ← Nat.mul_assoc, Nat.mul_comm q 4294967296]
  rw [Nat.add_mul, Nat.add_mul] at e2
  omega
structure MulOut (a b : List Nat) (i : Nat) (o : List Nat) : Prop where
  len : o.length = a.length + b.length
  ok : wordsOk o
  val : wval o = wval (a.take i) * wval b
  zero : ∀ j, i + b.length ≤ j → j < a.length + b.length → o[j]? = some 0
theorem MulOut.start (a b : List Nat) : MulOut a b 0 (List.replicate (a.length + b.length) 0) := by
  refine ⟨by simp, fun x hx => by rw [(List.mem_replicate.1 hx).2]; decide, by rw [wval_zeros]; simp [wval], fun j _ h2 => by simp [h2]⟩
theorem MulOut.enter {a b : List Nat} {i x : Nat} {o : List Nat} (h : MulOut a b i o) : MulIn b o i x 0 o 0 :=
  ⟨rfl, h.ok, by decide, by simp [wval], fun j h1 h2 => h.zero j h1 (by rw [← h.len]; exact h2)⟩
theorem MulOut.leave {a b : List Nat} {i x : Nat} {o0 o : List Nat} {c : Nat} (h : MulOut a b i o0) (hx : a[i]? = some x) (h2 : MulIn b o0 i x b.length o c) : MulOut a b (i + 1) (o.set (i + b.length) c) := by
  have hi := (List.getElem?_eq_some_iff.1 hx).1
  have hz := h2.zero (i + b.length) (Nat.le_refl _) (by rw [h.len]; omega)
  have hs := wval_set (u := c) hz
  refine ⟨by rw [List.length_set, h2.len]; exact h.len, words_set h2.ok h2.car, ?_, fun j h3 h4 => by rw [List.getElem?_set, if_neg (by omega)]; exact h2.zero j (by omega) (by rw [h.len]; exact h4)⟩
  have hv := h2.val
  rw [List.take_length] at hv
  have ht := wval_take_succ a i
  rw [hx, Option.getD_some] at ht
  rw [ht, Nat.add_mul, ← h.val]
  have e : x * wval b * 4294967296 ^ i = 4294967296 ^ i * x * wval b := by simp only [Nat.mul_assoc, Nat.mul_comm, Nat.mul_left_comm]
  omega
theorem sg_prod (x y : Int) : sg (decide (x < 0) != decide (y < 0)) (x.natAbs * y.natAbs) = x * y := by
  unfold sg
  have hx : x = if x < 0 then -(x.natAbs : Int) else x.natAbs := by split <;> omega
  have hy : y = if y < 0 then -(y.natAbs : Int) else y.natAbs := by split <;> omega
  by_cases h1 : x < 0 <;> by_cases h2 : y < 0
  all_goals
    simp only [h1, h2, decide_true, decide_false, bne_self_eq_false, Bool.false_eq_true, if_true, if_false, Bool.true_bne, Bool.false_bne, Bool.not_false] at hx hy ⊢
    conv => rhs; rw [hx, hy]
    simp [Int.neg_mul, Int.mul_neg]
def dyMul (x : Int) (dx : Nat) (y : Int) (dy : Nat) : Int × Nat := nf (x * y) (dx + dy)
theorem free_w (x : Int) : DFree (.row false 1 (canon x.natAbs).length (wds x)) := .row fun d hd => by obtain ⟨v, _, rfl⟩ := List.mem_map.1 hd; exact .val _
theorem rvW {P : Program} {F : Frm} {H : List Ob} {t : Tmp} {ty ty' id k : Nat} {x : Int} {d : Nat} (hk : TyK P ty true k) (hi : 3 = k) (hF : F t = .one (.ref id 0 none) := by with_unfolding_all exact rfl) (hH : H[id]? = some (.box ty' ((dDy false x d).map C.d)) := by with_unfolding_all exact rfl) : RV P F H (.cell t ty) (aDy false x d) :=
  rv_box hF hH hk hi rfl (.cons_ (cexp_d rfl fun _ => .val _) (.cons_ (cexp_d rfl fun _ => free_w x) (.cons_ (cexp_d rfl fun _ => .val _) .nil_)))
def Rp (p : Int × Nat) (X : Int) : Prop := p.1 * 2 ^ 200 = X * 2 ^ p.2
structure Sm (p : Int × Nat) (n d : Nat) : Prop where
  ok : Nf p.1 p.2
  n : p.1.natAbs < 2 ^ n
  d : p.2 ≤ d
theorem pow_words {n : Nat} (k : Nat) (h : n ≤ 32 * k) : 2 ^ n ≤ 4294967296 ^ k := by
  rw [show (4294967296 : Nat) = 2 ^ 32 from rfl, ← Nat.pow_mul]
  exact Nat.pow_le_pow_right (by decide) h
theorem Sm.len {p : Int × Nat} {n d : Nat} (h : Sm p n d) (hn : n ≤ 1600) : (canon p.1.natAbs).length ≤ 50 := canon_len_le (Nat.lt_of_lt_of_le h.n (pow_words 50 (by omega)))
theorem Sm.lenN {p : Int × Nat} {n d : Nat} (h : Sm p n d) (k : Nat) (hn : n ≤ 32 * k) : (canon p.1.natAbs).length ≤ k := canon_len_le (Nat.lt_of_lt_of_le h.n (pow_words k hn))
theorem Sm.l4 {p : Int × Nat} {n d : Nat} (h : Sm p n d) (hn : n ≤ 32 * 625 := by decide) : (canon p.1.natAbs).length ≤ 40000 := Nat.le_trans (h.lenN 625 hn) (by decide)
theorem Sm.more {p : Int × Nat} {n d n' d' : Nat} (h : Sm p n d) (h1 : n ≤ n') (h2 : d ≤ d') : Sm p n' d' := ⟨h.ok, Nat.lt_of_lt_of_le h.n (Nat.pow_le_pow_right (by decide) h1), Nat.le_trans h.d h2⟩
theorem Sm.mk_nf {m : Int} {p n d : Nat} (hd : p ≤ d) (h : p ≤ 65536) (hm : m.natAbs < 2 ^ n) : Sm (nf m p) n d := ⟨Nf.nf h, Nat.lt_of_le_of_lt (nf_abs_le m p) hm, Nat.le_trans (nf_le m p) hd⟩
theorem Sm.shift {x k : Int} {n : Nat} (h1 : -200 ≤ k) (h2 : k ≤ 200) (hx : x.natAbs < 2 ^ n) : Sm (dyShift x 0 k) (n + 200) 200 := by
  unfold dyShift
  rw [show max (-65536) (min k 65536) = k by omega]
  split
  · exact (Sm.mk_nf (by omega) (by omega) hx).more (by omega) (Nat.le_refl _)
  · refine Sm.mk_nf (by omega) (by omega) ?_
    rw [Int.natAbs_mul, Int.natAbs_pow, Nat.pow_add]
    exact Nat.lt_of_le_of_lt (Nat.mul_le_mul_left _ (Nat.pow_le_pow_right (by decide) (show k.toNat ≤ 200 by omega))) (Nat.mul_lt_mul_of_pos_right hx (Nat.pow_pos (by decide)))
section
variable {p q : Int × Nat} {X Y Z : Int} {n m d : Nat}
theorem Sm.neg (h : Sm p n d) : Sm (-p.1, p.2) n d := ⟨⟨h.ok.1, fun h0 => by have := h.ok.2 h0; show (-p.1) % 2 = 1; omega⟩, by show (-p.1).natAbs < _; rw [Int.natAbs_neg]; exact h.n, h.d⟩
theorem Sm.abs (h : Sm p n d) : Sm (((p.1.natAbs : Nat) : Int), p.2) n d := ⟨⟨h.ok.1, fun h0 => by have := h.ok.2 h0; show ((p.1.natAbs : Nat) : Int) % 2 = 1; omega⟩, h.n, h.d⟩
theorem Sm.sum (h : Sm p n d) (h2 : Sm q n d) (hd : d ≤ 65536) : Sm (dySum p.1 p.2 q.1 q.2) (n + d + 1) d := by
  have e : ∀ r : Int × Nat, Sm r n d → (r.1 * 2 ^ (Max.max p.2 q.2 - r.2)).natAbs < 2 ^ (n + d) := fun r hr => by
    rw [Int.natAbs_mul, Int.natAbs_pow, Nat.pow_add]
    have hpd := h.d
    have hqd := h2.d
    exact Nat.lt_of_le_of_lt (Nat.mul_le_mul_left _ (Nat.pow_le_pow_right (by decide) (show Max.max p.2 q.2 - r.2 ≤ d by omega))) (Nat.mul_lt_mul_of_pos_right hr.n (Nat.pow_pos (by decide)))
  have hpd := h.d
  have hqd := h2.d
  refine Sm.mk_nf (by omega) (by omega) ?_
  have h3 := e p h
  have h4 := e q h2
  have h5 := Int.natAbs_add_le (p.1 * 2 ^ (Max.max p.2 q.2 - p.2)) (q.1 * 2 ^ (Max.max p.2 q.2 - q.2))
  rw [Nat.pow_succ]
  omega
theorem Sm.mul (h : Sm p n d) (h2 : Sm q n d) (hd : d ≤ 30000) : Sm (dyMul p.1 p.2 q.1 q.2) (n + n) (d + d) := by
  have hpd := h.d
  have hqd := h2.d
  refine Sm.mk_nf (by omega) (by omega) ?_
  rw [Int.natAbs_mul, Nat.pow_add]
  exact Nat.mul_lt_mul'' h.n h2.n
theorem Sm.min (h : Sm p n d) (h2 : Sm q n d) : Sm (dyMin p.1 p.2 q.1 q.2) n d := by
  unfold dyMin
  split
  · exact h2
  · exact h
theorem Sm.max (h : Sm p n d) (h2 : Sm q n d) : Sm (dyMax p.1 p.2 q.1 q.2) n d := by
  unfold dyMax
  split
  · exact h2
  · exact h
end
def dyP (p : Int × Nat) : List D := dDy false p.1 p.2
theorem dy_at {l : List (Int × Nat)} {k : Nat} {p : Int × Nat} (h : l[k]? = some p) : ((flatD dyP l).drop (k * 3)).take 3 = dyP p := flatD_at (f := dyP) (s := 3) (fun _ => rfl) h
def blkD (y : Bk) (l : List (Int × Nat)) : Int × Nat :=
  if y.kind = 1 then dyShift y.vn 0 y.ve
  else if y.kind = 3 then dySum (l[0]?.getD (0, 0)).1 (l[0]?.getD (0, 0)).2 (l[1]?.getD (0, 0)).1 (l[1]?.getD (0, 0)).2
  else if y.kind = 4 then dySum (l[0]?.getD (0, 0)).1 (l[0]?.getD (0, 0)).2 (-(l[1]?.getD (0, 0)).1) (l[1]?.getD (0, 0)).2
  else if y.kind = 5 then (-(l[0]?.getD (0, 0)).1, (l[0]?.getD (0, 0)).2)
  else if y.kind = 6 then dyMul (dyShift y.vn 0 y.ve).1 (dyShift y.vn 0 y.ve).2 (l[0]?.getD (0, 0)).1 (l[0]?.getD (0, 0)).2
  else if y.kind = 7 then dyMul (l[0]?.getD (0, 0)).1 (l[0]?.getD (0, 0)).2 (l[1]?.getD (0, 0)).1 (l[1]?.getD (0, 0)).2
  else if y.kind = 8 then dyMin (l[0]?.getD (0, 0)).1 (l[0]?.getD (0, 0)).2 (l[1]?.getD (0, 0)).1 (l[1]?.getD (0, 0)).2
  else if y.kind = 9 then dyMax (l[0]?.getD (0, 0)).1 (l[0]?.getD (0, 0)).2 (l[1]?.getD (0, 0)).1 (l[1]?.getD (0, 0)).2
  else if y.kind = 10 then ((((l[0]?.getD (0, 0)).1.natAbs : Nat) : Int), (l[0]?.getD (0, 0)).2)
  else dyMin (dyMax (l[0]?.getD (0, 0)).1 (l[0]?.getD (0, 0)).2 (dyShift y.vn 0 y.ve).1 (dyShift y.vn 0 y.ve).2).1 (dyMax (l[0]?.getD (0, 0)).1 (l[0]?.getD (0, 0)).2 (dyShift y.vn 0 y.ve).1 (dyShift y.vn 0 y.ve).2).2 (dyShift y.un 0 y.ue).1 (dyShift y.un 0 y.ue).2
theorem ord_split {bs : List Bk} : ∀ (f : Nat) (out : List Nat), (∀ l1 j l2, out = l1 ++ j :: l2 → rdy bs l1 j = true) → ∀ l1 j l2, ordN bs f out = l1 ++ j :: l2 → rdy bs l1 j = true
  | 0, out, h, l1, j, l2, e => h l1 j l2 e
  | f + 1, out, h, l1, j, l2, e => by
    unfold ordN at e
    cases hn : nxt bs out with
    | none => rw [hn] at e; exact h l1 j l2 e
    | some i =>
      rw [hn] at e
      refine ord_split f (out ++ [i]) (fun m1 q m2 he => ?_) l1 j l2 e
      rcases List.eq_nil_or_concat m2 with rfl | ⟨m3, q', rfl⟩
      · have h1 := List.append_inj' he rfl
        obtain ⟨rfl, h2⟩ := h1
        cases h2
        exact (nxt_some hn).2
      · have h1 : out ++ [i] = (m1 ++ q :: m3) ++ [q'] := by rw [he]; simp
        exact h m1 q m3 (List.append_inj' h1 rfl).1
theorem ord_done {bs : List Bk} {l1 l2 : List Nat} {j : Nat} (h : ordM bs = l1 ++ j :: l2) {a : Int} (ha : a ∈ preds bs j) : kindAt bs a.toNat = 2 ∨ a.toNat ∈ l1 := by
  have h1 := ord_split bs.length [] (fun m1 q m2 he => by simp at he) l1 j l2 h
  unfold rdy at h1
  rw [Bool.and_eq_true] at h1
  have h2 := List.all_eq_true.1 h1.2 a ha
  unfold doneB at h2
  simpa using h2
theorem ord_all {bs : List Bk} (h : ordErr bs = 0) {j : Nat} (hj : j < bs.length) (hk : kindAt bs j ≠ 2) : j ∈ ordM bs := Classical.byContradiction fun hn => by
  have hlen : (ordM bs).length = nonDel bs := by
    unfold ordErr at h
    exact Classical.byContradiction fun hx => by rw [if_neg hx] at h; cases h
  have ho := ordN_ok bs.length (OutOk.nil bs)
  have := OutOk.le (bs := bs) (out := j :: ordM bs) ⟨List.nodup_cons.2 ⟨hn, ho.nodup⟩, fun i hi => by
    rcases List.mem_cons.1 hi with rfl | hi
    · exact ⟨hj, hk⟩
    · exact ho.mem i hi⟩
  rw [List.length_cons] at this
  omega
end Go.Proofs.YtfooonellkgaeaaDoor
