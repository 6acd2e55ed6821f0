/- What the proofs of this claim share, part 10. No conditions. -/
import Derived.Test.YtmdfjbpggbhgnaaDoorKw9
import Derived.Test.YtmdfjbpggbhgnaaDoorKw6
import Derived.Test.YtmdfjbpggbhgnaaDoorKw8
set_option maxRecDepth 100000
set_option maxHeartbeats 8000000
set_option linter.unusedVariables false
set_option linter.unusedSimpArgs false
set_option linter.unusedSectionVars false
namespace Go.Proofs.YtmdfjbpggbhgnaaDoor
open Go.RowKit
def outE (n : Nat) (a : Int) : Int := if 0 ≤ a ∧ a < (n : Int) then 0 else 10
def clipU (k : Int) : Bool := k == 11
def valU (k : Int) : Bool := k == 11 || k == 1 || k == 2 || k == 6
def mostM (np nb : Nat) (k : Int) : Nat := if k = 0 then np else nb
def blkErr (np nb : Nat) (b : Bk) : Int :=
  if arityM b.kind < 0 then 7 else if ¬ ((b.args.length : Nat) : Int) = arityM b.kind then 11 else if ¬ firstErr (b.args.map (outE (mostM np nb b.kind))) = 0 then 10
  else if ¬ scalE b.vn b.ve (valU b.kind) = 0 then scalE b.vn b.ve (valU b.kind) else if ¬ scalE b.un b.ue (clipU b.kind) = 0 then scalE b.un b.ue (clipU b.kind)
  else if clipU b.kind = true ∧ 0 < scCmp b.vn b.ve b.un b.ue then 26 else 0
section
variable {np nb : Nat} {b : Bk}
theorem be1 (h : arityM b.kind < 0) : blkErr np nb b = 7 := if_pos h
theorem be2 (h : ¬ arityM b.kind < 0) (h2 : ¬ ((b.args.length : Nat) : Int) = arityM b.kind) : blkErr np nb b = 11 := by unfold blkErr; rw [if_neg h, if_pos h2]
theorem be3 (h : ¬ arityM b.kind < 0) (h2 : ((b.args.length : Nat) : Int) = arityM b.kind) {M : Nat} (hM : mostM np nb b.kind = M) (h3 : ¬ firstErr (b.args.map (outE M)) = 0) : blkErr np nb b = 10 := by
  subst hM; unfold blkErr; rw [if_neg h, if_neg (not_not_intro h2), if_pos h3]
theorem be4 (h : ¬ arityM b.kind < 0) (h2 : ((b.args.length : Nat) : Int) = arityM b.kind) {M : Nat} (hM : mostM np nb b.kind = M) (h3 : firstErr (b.args.map (outE M)) = 0) {vu : Bool} (hv : valU b.kind = vu) (h4 : ¬ scalE b.vn b.ve vu = 0) : blkErr np nb b = scalE b.vn b.ve vu := by
  subst hM hv; unfold blkErr; rw [if_neg h, if_neg (not_not_intro h2), if_neg (not_not_intro h3), if_pos h4]
theorem be5 (h : ¬ arityM b.kind < 0) (h2 : ((b.args.length : Nat) : Int) = arityM b.kind) {M : Nat} (hM : mostM np nb b.kind = M) (h3 : firstErr (b.args.map (outE M)) = 0) {vu cu : Bool} (hv : valU b.kind = vu) (h4 : scalE b.vn b.ve vu = 0) (hc : clipU b.kind = cu)
    (h5 : ¬ scalE b.un b.ue cu = 0) : blkErr np nb b = scalE b.un b.ue cu := by
  subst hM hv hc; unfold blkErr; rw [if_neg h, if_neg (not_not_intro h2), if_neg (not_not_intro h3), if_neg (not_not_intro h4), if_pos h5]
theorem be6 (h : ¬ arityM b.kind < 0) (h2 : ((b.args.length : Nat) : Int) = arityM b.kind) {M : Nat} (hM : mostM np nb b.kind = M) (h3 : firstErr (b.args.map (outE M)) = 0) {vu cu : Bool} (hv : valU b.kind = vu) (h4 : scalE b.vn b.ve vu = 0) (hc : clipU b.kind = cu)
    (h5 : scalE b.un b.ue cu = 0) (h6 : cu = true ∧ 0 < scCmp b.vn b.ve b.un b.ue) : blkErr np nb b = 26 := by
  subst hM hv hc; unfold blkErr; rw [if_neg h, if_neg (not_not_intro h2), if_neg (not_not_intro h3), if_neg (not_not_intro h4), if_neg (not_not_intro h5), if_pos h6]
theorem be7 (h : ¬ arityM b.kind < 0) (h2 : ((b.args.length : Nat) : Int) = arityM b.kind) {M : Nat} (hM : mostM np nb b.kind = M) (h3 : firstErr (b.args.map (outE M)) = 0) {vu cu : Bool} (hv : valU b.kind = vu) (h4 : scalE b.vn b.ve vu = 0) (hc : clipU b.kind = cu)
    (h5 : scalE b.un b.ue cu = 0) (h6 : ¬ (cu = true ∧ 0 < scCmp b.vn b.ve b.un b.ue)) : blkErr np nb b = 0 := by
  subst hM hv hc; unfold blkErr; rw [if_neg h, if_neg (not_not_intro h2), if_neg (not_not_intro h3), if_neg (not_not_intro h4), if_neg (not_not_intro h5), if_neg h6]
end
theorem scOk_of {n e : Int} (h : scalE n e true = 0) : scOk n e := by
  unfold scalE at h
  rw [if_pos rfl] at h
  by_cases hs : scOk n e
  · exact hs
  · rw [if_neg hs] at h; cases h
theorem out_hit {args : List Int} {M t : Nat} {z : Int} (hz : args[t]? = some z) (hb : ¬ (0 ≤ z ∧ z < (M : Int))) (hf : firstErr ((args.map (outE M)).take t) = 0) : ¬ firstErr (args.map (outE M)) = 0 := by
  rw [fe_hit (k := t) (e := 10) (by rw [List.getElem?_map, hz]; exact congrArg some (if_neg hb)) (by decide) hf]
  decide
theorem out_step {args : List Int} {M t : Nat} {z : Int} (hz : args[t]? = some z) (hb : 0 ≤ z ∧ z < (M : Int)) (hf : firstErr ((args.map (outE M)).take t) = 0) : firstErr ((args.map (outE M)).take (t + 1)) = 0 :=
  fe_step (by rw [List.getElem?_map, hz]; exact congrArg some (if_pos hb)) hf
structure KP (W : World) (m : Nat) (w : World) : Prop where
  is : Below m W w
  fits : m ≤ w.heap.size
theorem KP.drew {W w : World} {m : Nat} (h : KP W m w) : KP W m w.drew := ⟨h.is.drew, h.fits⟩
theorem KP.call {W w w' : World} {m : Nat} (h : KP W m w) (hb : Below w.heap.size w w') : KP W m w' := ⟨h.is.trans (hb.mono h.fits), Nat.le_trans h.fits hb.size⟩
theorem KP.all {W w : World} {m : Nat} (h : KP W m w) : (∀ b o, b < m → w.cell? ⟨b, o, none⟩ = W.cell? ⟨b, o, none⟩) ∧ KP W m w := ⟨fun _ _ hb => h.is.cell hb, h⟩
def argRel (args : List Int) (M : Nat) (W : World) (i : Value) (wr : World) : Prop := ∃ t : Nat, t ≤ args.length ∧ i = .int .i64 (t : Int) ∧ firstErr ((args.map (outE M)).take t) = 0 ∧ wr = W
end Go.Proofs.YtmdfjbpggbhgnaaDoor
namespace Go.Proofs.YtmdfjbpggbhgnaaDoor
open Go.RowKit
def portE (p : Prt) : Int := if -2147483648 ≤ p.lo ∧ p.lo ≤ p.hi ∧ p.hi < 2147483648 ∧ 0 ≤ p.fr ∧ p.fr ≤ 30 then 0 else 3
def sizeOk (ps : List Prt) (bs : List Bk) (os : List Int) : Prop := ps.length ≤ 16 ∧ bs.length ≤ 64 ∧ os.length ≤ 16
def preErr (ps : List Prt) (bs : List Bk) (os : List Int) : Int := firstErr (ps.map portE ++ (bs.map (blkErr ps.length bs.length) ++ os.map (outE bs.length)))
instance (ps : List Prt) (bs : List Bk) (os : List Int) : Decidable (sizeOk ps bs os) := by unfold sizeOk; infer_instance
def dgErr (ps : List Prt) (bs : List Bk) (os : List Int) : Int := if ¬ sizeOk ps bs os then 4 else if ¬ preErr ps bs os = 0 then preErr ps bs os else ordErr bs
theorem firstErr_zero {l : List Int} (h : firstErr l = 0) : ∀ x ∈ l, x = 0 := by
  induction l with
  | nil => simp
  | cons y l ih =>
    unfold firstErr at h
    by_cases hy : y = 0
    · rw [if_pos hy] at h
      intro x hx
      rcases List.mem_cons.1 hx with rfl | hx
      · exact hy
      · exact ih h x hx
    · rw [if_neg hy] at h
      exact absurd h hy
theorem blk_args {np nb : Nat} {b : Bk} (h : blkErr np nb b = 0) : 0 ≤ arityM b.kind ∧ ((b.args.length : Nat) : Int) = arityM b.kind ∧ ∀ a ∈ b.args, 0 ≤ a ∧ a < (mostM np nb b.kind : Int) := by
  unfold blkErr at h
  by_cases h1 : arityM b.kind < 0
  · rw [if_pos h1] at h; cases h
  · rw [if_neg h1] at h
    by_cases h2 : ¬ ((b.args.length : Nat) : Int) = arityM b.kind
    · rw [if_pos h2] at h; cases h
    · rw [if_neg h2] at h
      by_cases h3 : ¬ firstErr (b.args.map (outE (mostM np nb b.kind))) = 0
      · rw [if_pos h3] at h; cases h
      · refine ⟨by omega, Decidable.of_not_not h2, fun a ha => ?_⟩
        have := firstErr_zero (Decidable.of_not_not h3) (outE (mostM np nb b.kind) a) (List.mem_map_of_mem ha)
        unfold outE at this
        by_cases h4 : 0 ≤ a ∧ a < (mostM np nb b.kind : Int)
        · exact h4
        · rw [if_neg h4] at this; cases this
theorem succ_ok {np : Nat} {bs : List Bk} (h : firstErr (bs.map (blkErr np bs.length)) = 0) : SuccOk bs := by
  intro i hi a ha
  have hx := List.getElem?_eq_getElem hi
  rw [preds_of hx] at ha
  by_cases hk : bs[i].kind = 0
  · rw [if_pos hk] at ha; cases ha
  · rw [if_neg hk] at ha
    have h0 := firstErr_zero h (blkErr np bs.length bs[i]) (List.mem_map_of_mem (List.getElem_mem hi))
    have := (blk_args h0).2.2 a ha
    unfold mostM at this
    rw [if_neg hk] at this
    exact this
section
variable {ps : List Prt} {bs : List Bk} {os : List Int}
theorem de0 (h : ¬ sizeOk ps bs os) : dgErr ps bs os = 4 := if_pos h
theorem de1 (h : sizeOk ps bs os) {e : Int} (h2 : preErr ps bs os = e) (h3 : ¬ e = 0) : dgErr ps bs os = e := by subst h2; unfold dgErr; rw [if_neg (not_not_intro h), if_pos h3]
theorem de2 (h : sizeOk ps bs os) (h2 : preErr ps bs os = 0) : dgErr ps bs os = ordErr bs := by unfold dgErr; rw [if_neg (not_not_intro h), if_neg (not_not_intro h2)]
theorem pe1 {k : Nat} {p : Prt} {e : Int} (hp : ps[k]? = some p) (he : portE p = e) (h0 : ¬ e = 0) (hf : firstErr ((ps.map portE).take k) = 0) : preErr ps bs os = e :=
  fe_mid (pre := []) (k := k) rfl (by rw [List.getElem?_map, hp]; exact congrArg some he) h0 hf
theorem pe2 {k : Nat} {b : Bk} {e : Int} (h1 : firstErr (ps.map portE) = 0) (hp : bs[k]? = some b) (he : blkErr ps.length bs.length b = e) (h0 : ¬ e = 0) (hf : firstErr ((bs.map (blkErr ps.length bs.length)).take k) = 0) : preErr ps bs os = e :=
  fe_mid h1 (k := k) (by rw [List.getElem?_map, hp]; exact congrArg some he) h0 hf
theorem pe3 {k : Nat} {o : Int} {e : Int} (h1 : firstErr (ps.map portE) = 0) (h2 : firstErr (bs.map (blkErr ps.length bs.length)) = 0) (hp : os[k]? = some o) (he : outE bs.length o = e) (h0 : ¬ e = 0) (hf : firstErr ((os.map (outE bs.length)).take k) = 0) : preErr ps bs os = e := by
  unfold preErr
  rw [firstErr_append, if_pos h1, firstErr_append, if_pos h2]
  exact fe_hit (k := k) (by rw [List.getElem?_map, hp]; exact congrArg some he) h0 hf
theorem pe4 (h1 : firstErr (ps.map portE) = 0) (h2 : firstErr (bs.map (blkErr ps.length bs.length)) = 0) (h3 : firstErr (os.map (outE bs.length)) = 0) : preErr ps bs os = 0 := by
  unfold preErr
  rw [firstErr_append, if_pos h1, firstErr_append, if_pos h2, h3]
theorem fs1 {α : Type} {l : List α} {f : α → Int} {k : Nat} {x : α} (hx : l[k]? = some x) (he : f x = 0) (hf : firstErr ((l.map f).take k) = 0) : firstErr ((l.map f).take (k + 1)) = 0 := fe_step (by rw [List.getElem?_map, hx]; exact congrArg some he) hf
end
def cqRel (w : World) (vs : List Value) (es : List Int) (i : Value) (wr : World) : Prop :=
  ∃ k : Nat, k ≤ es.length ∧ i = .int .i64 (k : Int) ∧ firstErr (es.take k) = 0 ∧ RowD wr w.heap.size vs 26 ∧ Below w.heap.size w wr
end Go.Proofs.YtmdfjbpggbhgnaaDoor
namespace Go.Proofs.YtmdfjbpggbhgnaaDoor
open Go.RowKit
theorem dys_len {n e : Int} (h : scOk n e) : (canon (dyShift n 0 e).1.natAbs).length ≤ 50000 := by
  obtain ⟨h1, h2, h3, h4⟩ := h
  unfold dyShift
  split
  · exact Nat.le_trans (canon_len_mono (nf_abs_le _ _)) (Nat.le_trans (canon_len_le (k := 1) (by omega)) (by decide))
  · refine Nat.le_trans (canon_len_mono (nf_abs_le _ _)) ?_
    rw [abs_mul_pow]
    refine Nat.le_trans (canon_len_shift _ _) ?_
    have := canon_len_le (n := n.natAbs) (k := 1) (by omega)
    omega
theorem check_bad (d : Dg) (b : Bk) (w : World) (h : ¬ (0 ≤ arityM b.kind ∧ ((b.args.length : Nat) : Int) = arityM b.kind)) (hl : b.args.length ≤ 1000000) :
    Calls Tryd.prog 18 #[d.val, b.val] w fun e w' => e = .returned (errV (blkErr d.ps.length d.bs.length b)) ∧ Below w.heap.size w w' := by
  obtain ⟨A1, ps, c1, A2, bs, c2, A3, os, c3⟩ := d
  obtain ⟨kind, A, args, cap, vn, ve, un, ue⟩ := b
  dsimp only at h hl
  simp only [Dg.val, Bk.val]
  have b0 : Below w.heap.size w ((w.alloc (.cells #[.slice A1 ps.length c1, .slice A2 bs.length c2, .slice A3 os.length c3] 26)).alloc (.cells #[.int .i64 kind, .slice A args.length cap, .int .i64 vn, .int .i64 ve, .int .i64 un, .int .i64 ue] 39)) := ext_alloc (al_ _ _) _
  obtain ⟨K, hK⟩ : ∃ K, arityM kind = K := ⟨_, rfl⟩
  have HKK := Lib.hid hK
  by_cases hk0 : K < 0
  · have HE := Lib.hid (be1 (np := ps.length) (nb := bs.length) (b := ⟨kind, A, args, cap, vn, ve, un, ue⟩) (by show arityM kind < 0; omega))
    clear h hK
    go_enter Tryd.func18, Tryd.ntmps18
    go_wp2_with (go_at_call 40; refine (arity_any _ _).mono ?_; rintro e w1 ⟨rfl, rfl⟩; rw [HKK.out])
    go_ret
    exact ⟨er_n HE.out (by decide), b0⟩
  · have HE := Lib.hid (be2 (np := ps.length) (nb := bs.length) (b := ⟨kind, A, args, cap, vn, ve, un, ue⟩) (by show ¬ arityM kind < 0; omega) (fun h2 => h ⟨by omega, h2⟩))
    have hne : (((args.length : Nat) : Int) != K) = true := by
      rw [bne_iff_ne]
      intro h2
      exact h ⟨by omega, by omega⟩
    have hk1 : 0 ≤ K := by omega
    clear h hK hk0
    go_enter Tryd.func18, Tryd.ntmps18
    go_wp2_with (go_at_call 40; refine (arity_any _ _).mono ?_; rintro e w1 ⟨rfl, rfl⟩; rw [HKK.out])
    go_ret
    exact ⟨er_n HE.out (by decide), b0⟩
theorem check_0 (A1 : Option Addr) (ps : List Prt) (c1 : Nat) (A2 : Option Addr) (bs : List Bk) (c2 : Nat) (A3 : Option Addr) (os : List Int) (c3 : Nat) (A : Option Addr) (args : List Int) (cap : Nat) (vn ve un ue : Int) (m : Nat) (w : World)
    (hk0 : ¬ arityM 0 < 0) (hk1 : ((args.length : Nat) : Int) = arityM 0) (hl : args.length ≤ 1000000) (hl1 : ps.length ≤ 1000000) (hl2 : bs.length ≤ 1000000) (hm : m ≤ w.heap.size) (ha : CellsAt w m A (ints args)) (ht : TabAt w) :
    Calls Tryd.prog 18 #[.agg #[.slice A1 ps.length c1, .slice A2 bs.length c2, .slice A3 os.length c3], .agg #[.int .i64 0, .slice A args.length cap, .int .i64 vn, .int .i64 ve, .int .i64 un, .int .i64 ue]] w fun e w' => e = .returned (errV (blkErr ps.length bs.length ⟨0, A, args, cap, vn, ve, un, ue⟩)) ∧ Below w.heap.size w w' := by
  have b0 : Below w.heap.size w ((w.alloc (.cells #[.slice A1 ps.length c1, .slice A2 bs.length c2, .slice A3 os.length c3] 26)).alloc (.cells #[.int .i64 0, .slice A args.length cap, .int .i64 vn, .int .i64 ve, .int .i64 un, .int .i64 ue] 39)) := ext_alloc (al_ _ _) _
  have r0 := (RowD.new_ w [.slice A1 ps.length c1, .slice A2 bs.length c2, .slice A3 os.length c3] 26).call (al_ _ (.cells #[.int .i64 0, .slice A args.length cap, .int .i64 vn, .int .i64 ve, .int .i64 un, .int .i64 ue] 39))
  have r1 := RowD.new_ (w.alloc (.cells #[.slice A1 ps.length c1, .slice A2 bs.length c2, .slice A3 os.length c3] 26)) [.int .i64 0, .slice A args.length cap, .int .i64 vn, .int .i64 ve, .int .i64 un, .int .i64 ue] 39
  rw [show (w.alloc (.cells #[.slice A1 ps.length c1, .slice A2 bs.length c2, .slice A3 os.length c3] 26)).heap.size = w.heap.size + 1 by simp] at r1
  have HT := Lib.hid ht
  have HA := Lib.hid ha
  have HK0 := Lib.hid hk0
  have HK1 := Lib.hid hk1
  obtain ⟨K, hK⟩ : ∃ K, arityM 0 = K := ⟨_, rfl⟩
  have HKK := Lib.hid hK
  have hne : (((args.length : Nat) : Int) != K) = false := by rw [hk1, hK]; simp
  have hkk : 0 ≤ K := by omega
  clear ht ha hk0 hk1 hK
  go_enter Tryd.func18, Tryd.ntmps18
  have HM : Hid (mostM ps.length bs.length 0 = ps.length) := Lib.hid (rfl)
  have HV : Hid (valU 0 = false) := Lib.hid (by decide)
  have HU : Hid (clipU 0 = false) := Lib.hid (by decide)
  go_wp2_with (go_at_call 40; refine (arity_any _ _).mono ?_; rintro e w1 ⟨rfl, rfl⟩; rw [HKK.out])
  obtain ⟨W, hW⟩ : ∃ W, W = ((w.alloc (.cells #[.slice A1 ps.length c1, .slice A2 bs.length c2, .slice A3 os.length c3] 26)).alloc (.cells #[.int .i64 0, .slice A args.length cap, .int .i64 vn, .int .i64 ve, .int .i64 un, .int .i64 ue] 39)) := ⟨_, rfl⟩
  rw [← hW]
  rw [← hW] at r0 r1 b0
  have hWs : W.heap.size = w.heap.size + 2 := by rw [hW]; simp
  clear hW
  have HTW := Lib.hid (HT.out.below b0 HT.out.1)
  have q0 : W.cell? ⟨w.heap.size + 1, 0, none⟩ = some (.int .i64 0) := r1.cell 0
  have q2 : W.cell? ⟨w.heap.size + 1, 2, none⟩ = some (.int .i64 vn) := r1.cell 2
  have q3 : W.cell? ⟨w.heap.size + 1, 3, none⟩ = some (.int .i64 ve) := r1.cell 3
  have HB0 := Lib.hid b0
  have R1 := Lib.hid r1
  have HA2 := Lib.hid (HA.out.below b0 hm)
  have hbs1 : (W.heap.size : Int) = w.heap.size + 2 := by omega
  clear r0 r1 b0
  go_loopw [36] (fun i wr => argRel args ps.length W i wr) (fun i _ => args.length - (intOf i).toNat)
  case atStart => exact ⟨0, Nat.zero_le _, rfl, rfl, rfl⟩
  case round =>
    as_aux_lemma =>
      obtain ⟨t, ht, rfl, hf, rfl⟩ := hrel
      have HF := Lib.hid hf
      clear hf
      by_cases hlt : t < args.length
      · obtain ⟨ab, ao, z, rfl, hab, hab2, hz, hzc⟩ := HA2.out.int_ hlt
        have HZ := Lib.hid hz
        clear hz
        by_cases h0 : z < 0
        · have hE := Lib.hid (be3 (np := ps.length) (nb := bs.length) (b := ⟨0, some ⟨ab, ao, none⟩, args, cap, vn, ve, un, ue⟩) (Int.not_lt.2 HK0.out) HK1.out HM.out (out_hit HZ.out (by omega) HF.out))
          go_wp2_with fail
          go_ret
          exact ⟨er_n (k := 10) hE.out (by decide), HB0.out⟩
        · have h1 : 0 ≤ z := by omega
          clear h0
          by_cases h2 : z < (ps.length : Int)
          · have HZ2 := Lib.hid (out_step HZ.out ⟨h1, h2⟩ HF.out)
            go_wp2_with fail
            all_goals try (exfalso; omega)
            exact ⟨⟨t + 1, by omega, by go_num, HZ2.out, rfl⟩, by simp [intOf]; omega⟩
          · have hE := Lib.hid (be3 (np := ps.length) (nb := bs.length) (b := ⟨0, some ⟨ab, ao, none⟩, args, cap, vn, ve, un, ue⟩) (Int.not_lt.2 HK0.out) HK1.out HM.out (out_hit HZ.out (by omega) HF.out))
            have h3 : (ps.length : Int) ≤ z := by omega
            clear h2
            go_wp2_with fail
            all_goals try (exfalso; omega)
            go_ret
            exact ⟨er_n (k := 10) hE.out (by decide), HB0.out⟩
      · have P1 := Lib.hid (fe_all (k := t) (by rw [List.length_map]; omega) HF.out)
        clear HF
        have hE4 := fun h => be4 (np := ps.length) (nb := bs.length) (b := ⟨0, A, args, cap, vn, ve, un, ue⟩) (Int.not_lt.2 HK0.out) HK1.out HM.out P1.out HV.out h
        have hE5 := fun h4 h => be5 (np := ps.length) (nb := bs.length) (b := ⟨0, A, args, cap, vn, ve, un, ue⟩) (Int.not_lt.2 HK0.out) HK1.out HM.out P1.out HV.out h4 HU.out h
        have hE6 := fun h4 h5 h => be6 (np := ps.length) (nb := bs.length) (b := ⟨0, A, args, cap, vn, ve, un, ue⟩) (Int.not_lt.2 HK0.out) HK1.out HM.out P1.out HV.out h4 HU.out h5 h
        have hE7 := fun h4 h5 h => be7 (np := ps.length) (nb := bs.length) (b := ⟨0, A, args, cap, vn, ve, un, ue⟩) (Int.not_lt.2 HK0.out) HK1.out HM.out P1.out HV.out h4 HU.out h5 h
        dsimp only at hE4 hE5 hE6 hE7
        have HE4 := Lib.hid hE4
        have HE5 := Lib.hid hE5
        have HE6 := Lib.hid hE6
        have HE7 := Lib.hid hE7
        clear hE4 hE5 hE6 hE7
        go_wp2_with fail
        go_at_call 41
        refine (scalar_any vn ve false wr).mono ?_
        rintro e w5 ⟨rfl, hb5⟩
        have N5 := Lib.hid (HB0.out.trans (hb5.mono (by omega)))
        have r5 := R1.out.call hb5
        have HT5 := Lib.hid (HTW.out.below (hb5.mono (B' := 1) (by omega)) (by omega))
        have hz5 := hb5.size
        have z5 : w.heap.size + 1 < w5.heap.size := by omega
        have q4 : w5.cell? ⟨w.heap.size + 1, 4, none⟩ = some (.int .i64 un) := r5.cell 4
        have q5 : w5.cell? ⟨w.heap.size + 1, 5, none⟩ = some (.int .i64 ue) := r5.cell 5
        have R5 := Lib.hid r5
        clear r5 hb5 q0 q2 q3 hlt hbs1
        by_cases h4 : scalE vn ve false = 0
        · rw [h4, errV_0]
          have H4 := Lib.hid h4
          clear h4
          go_wp2_with fail
          go_at_call 41
          refine (scalar_any un ue false w5).mono ?_
          rintro e w6 ⟨rfl, hb6⟩
          have N6 := Lib.hid (N5.out.trans (hb6.mono (by omega)))
          have r6 := R5.out.call hb6
          have HT6 := Lib.hid (HT5.out.below (hb6.mono (B' := 1) (by omega)) (by omega))
          have hz6 := hb6.size
          have z6 : w.heap.size + 1 < w6.heap.size := by omega
          have q2 : w6.cell? ⟨w.heap.size + 1, 2, none⟩ = some (.int .i64 vn) := r6.cell 2
          have q3 : w6.cell? ⟨w.heap.size + 1, 3, none⟩ = some (.int .i64 ve) := r6.cell 3
          have q6 : w6.cell? ⟨w.heap.size + 1, 4, none⟩ = some (.int .i64 un) := r6.cell 4
          have q7 : w6.cell? ⟨w.heap.size + 1, 5, none⟩ = some (.int .i64 ue) := r6.cell 5
          clear r6 hb6 q4 q5 z5
          by_cases h5 : scalE un ue false = 0
          · rw [h5, errV_0]
            have H5 := Lib.hid h5
            clear h5
            go_wp2_with fail
            go_quiet (fail)
            go_wp2_with fail
            go_ret
            exact ⟨er_0 (HE7.out H4.out H5.out (fun h => by cases h.1)), by repeat (first | exact N6.out | refine ext_drew ?_ | refine ext_drewN ?_ _)⟩
          · have HE := Lib.hid (HE5.out H4.out h5)
            rw [errV_n h5]
            have H5 := Lib.hid h5
            clear h5
            go_wp2_with fail
            go_ret
            exact ⟨er_n HE.out H5.out, N6.out⟩
        · have HE := Lib.hid (HE4.out h4)
          rw [errV_n h4]
          have H4 := Lib.hid h4
          clear h4
          go_wp2_with fail
          go_ret
          exact ⟨er_n HE.out H4.out, N5.out⟩
theorem check_11 (A1 : Option Addr) (ps : List Prt) (c1 : Nat) (A2 : Option Addr) (bs : List Bk) (c2 : Nat) (A3 : Option Addr) (os : List Int) (c3 : Nat) (A : Option Addr) (args : List Int) (cap : Nat) (vn ve un ue : Int) (m : Nat) (w : World)
    (hk0 : ¬ arityM 11 < 0) (hk1 : ((args.length : Nat) : Int) = arityM 11) (hl : args.length ≤ 1000000) (hl1 : ps.length ≤ 1000000) (hl2 : bs.length ≤ 1000000) (hm : m ≤ w.heap.size) (ha : CellsAt w m A (ints args)) (ht : TabAt w) :
    Calls Tryd.prog 18 #[.agg #[.slice A1 ps.length c1, .slice A2 bs.length c2, .slice A3 os.length c3], .agg #[.int .i64 11, .slice A args.length cap, .int .i64 vn, .int .i64 ve, .int .i64 un, .int .i64 ue]] w fun e w' => e = .returned (errV (blkErr ps.length bs.length ⟨11, A, args, cap, vn, ve, un, ue⟩)) ∧ Below w.heap.size w w' := by
  have b0 : Below w.heap.size w ((w.alloc (.cells #[.slice A1 ps.length c1, .slice A2 bs.length c2, .slice A3 os.length c3] 26)).alloc (.cells #[.int .i64 11, .slice A args.length cap, .int .i64 vn, .int .i64 ve, .int .i64 un, .int .i64 ue] 39)) := ext_alloc (al_ _ _) _
  have r0 := (RowD.new_ w [.slice A1 ps.length c1, .slice A2 bs.length c2, .slice A3 os.length c3] 26).call (al_ _ (.cells #[.int .i64 11, .slice A args.length cap, .int .i64 vn, .int .i64 ve, .int .i64 un, .int .i64 ue] 39))
  have r1 := RowD.new_ (w.alloc (.cells #[.slice A1 ps.length c1, .slice A2 bs.length c2, .slice A3 os.length c3] 26)) [.int .i64 11, .slice A args.length cap, .int .i64 vn, .int .i64 ve, .int .i64 un, .int .i64 ue] 39
  rw [show (w.alloc (.cells #[.slice A1 ps.length c1, .slice A2 bs.length c2, .slice A3 os.length c3] 26)).heap.size = w.heap.size + 1 by simp] at r1
  have HT := Lib.hid ht
  have HA := Lib.hid ha
  have HK0 := Lib.hid hk0
  have HK1 := Lib.hid hk1
  obtain ⟨K, hK⟩ : ∃ K, arityM 11 = K := ⟨_, rfl⟩
  have HKK := Lib.hid hK
  have hne : (((args.length : Nat) : Int) != K) = false := by rw [hk1, hK]; simp
  have hkk : 0 ≤ K := by omega
  clear ht ha hk0 hk1 hK
  go_enter Tryd.func18, Tryd.ntmps18
  have HM : Hid (mostM ps.length bs.length 11 = bs.length) := Lib.hid (rfl)
  have HV : Hid (valU 11 = true) := Lib.hid (by decide)
  have HU : Hid (clipU 11 = true) := Lib.hid (by decide)
  go_wp2_with (go_at_call 40; refine (arity_any _ _).mono ?_; rintro e w1 ⟨rfl, rfl⟩; rw [HKK.out])
  obtain ⟨W, hW⟩ : ∃ W, W = ((w.alloc (.cells #[.slice A1 ps.length c1, .slice A2 bs.length c2, .slice A3 os.length c3] 26)).alloc (.cells #[.int .i64 11, .slice A args.length cap, .int .i64 vn, .int .i64 ve, .int .i64 un, .int .i64 ue] 39)) := ⟨_, rfl⟩
  rw [← hW]
  rw [← hW] at r0 r1 b0
  have hWs : W.heap.size = w.heap.size + 2 := by rw [hW]; simp
  clear hW
  have HTW := Lib.hid (HT.out.below b0 HT.out.1)
  have q0 : W.cell? ⟨w.heap.size + 1, 0, none⟩ = some (.int .i64 11) := r1.cell 0
  have q2 : W.cell? ⟨w.heap.size + 1, 2, none⟩ = some (.int .i64 vn) := r1.cell 2
  have q3 : W.cell? ⟨w.heap.size + 1, 3, none⟩ = some (.int .i64 ve) := r1.cell 3
  have HB0 := Lib.hid b0
  have R1 := Lib.hid r1
  have HA2 := Lib.hid (HA.out.below b0 hm)
  have hbs1 : (W.heap.size : Int) = w.heap.size + 2 := by omega
  clear r0 r1 b0
  go_loopw [36] (fun i wr => argRel args bs.length W i wr) (fun i _ => args.length - (intOf i).toNat)
  case atStart => exact ⟨0, Nat.zero_le _, rfl, rfl, rfl⟩
  case round =>
    as_aux_lemma =>
      obtain ⟨t, ht, rfl, hf, rfl⟩ := hrel
      have HF := Lib.hid hf
      clear hf
      by_cases hlt : t < args.length
      · obtain ⟨ab, ao, z, rfl, hab, hab2, hz, hzc⟩ := HA2.out.int_ hlt
        have HZ := Lib.hid hz
        clear hz
        by_cases h0 : z < 0
        · have hE := Lib.hid (be3 (np := ps.length) (nb := bs.length) (b := ⟨11, some ⟨ab, ao, none⟩, args, cap, vn, ve, un, ue⟩) (Int.not_lt.2 HK0.out) HK1.out HM.out (out_hit HZ.out (by omega) HF.out))
          go_wp2_with fail
          go_ret
          exact ⟨er_n (k := 10) hE.out (by decide), HB0.out⟩
        · have h1 : 0 ≤ z := by omega
          clear h0
          by_cases h2 : z < (bs.length : Int)
          · have HZ2 := Lib.hid (out_step HZ.out ⟨h1, h2⟩ HF.out)
            go_wp2_with fail
            all_goals try (exfalso; omega)
            exact ⟨⟨t + 1, by omega, by go_num, HZ2.out, rfl⟩, by simp [intOf]; omega⟩
          · have hE := Lib.hid (be3 (np := ps.length) (nb := bs.length) (b := ⟨11, some ⟨ab, ao, none⟩, args, cap, vn, ve, un, ue⟩) (Int.not_lt.2 HK0.out) HK1.out HM.out (out_hit HZ.out (by omega) HF.out))
            have h3 : (bs.length : Int) ≤ z := by omega
            clear h2
            go_wp2_with fail
            all_goals try (exfalso; omega)
            go_ret
            exact ⟨er_n (k := 10) hE.out (by decide), HB0.out⟩
      · have P1 := Lib.hid (fe_all (k := t) (by rw [List.length_map]; omega) HF.out)
        clear HF
        have hE4 := fun h => be4 (np := ps.length) (nb := bs.length) (b := ⟨11, A, args, cap, vn, ve, un, ue⟩) (Int.not_lt.2 HK0.out) HK1.out HM.out P1.out HV.out h
        have hE5 := fun h4 h => be5 (np := ps.length) (nb := bs.length) (b := ⟨11, A, args, cap, vn, ve, un, ue⟩) (Int.not_lt.2 HK0.out) HK1.out HM.out P1.out HV.out h4 HU.out h
        have hE6 := fun h4 h5 h => be6 (np := ps.length) (nb := bs.length) (b := ⟨11, A, args, cap, vn, ve, un, ue⟩) (Int.not_lt.2 HK0.out) HK1.out HM.out P1.out HV.out h4 HU.out h5 h
        have hE7 := fun h4 h5 h => be7 (np := ps.length) (nb := bs.length) (b := ⟨11, A, args, cap, vn, ve, un, ue⟩) (Int.not_lt.2 HK0.out) HK1.out HM.out P1.out HV.out h4 HU.out h5 h
        dsimp only at hE4 hE5 hE6 hE7
        have HE4 := Lib.hid hE4
        have HE5 := Lib.hid hE5
        have HE6 := Lib.hid hE6
        have HE7 := Lib.hid hE7
        clear hE4 hE5 hE6 hE7
        go_wp2_with fail
        go_at_call 41
        refine (scalar_any vn ve true wr).mono ?_
        rintro e w5 ⟨rfl, hb5⟩
        have N5 := Lib.hid (HB0.out.trans (hb5.mono (by omega)))
        have r5 := R1.out.call hb5
        have HT5 := Lib.hid (HTW.out.below (hb5.mono (B' := 1) (by omega)) (by omega))
        have hz5 := hb5.size
        have z5 : w.heap.size + 1 < w5.heap.size := by omega
        have q4 : w5.cell? ⟨w.heap.size + 1, 4, none⟩ = some (.int .i64 un) := r5.cell 4
        have q5 : w5.cell? ⟨w.heap.size + 1, 5, none⟩ = some (.int .i64 ue) := r5.cell 5
        have R5 := Lib.hid r5
        clear r5 hb5 q0 q2 q3 hlt hbs1
        by_cases h4 : scalE vn ve true = 0
        · rw [h4, errV_0]
          have H4 := Lib.hid h4
          clear h4
          go_wp2_with fail
          go_at_call 41
          refine (scalar_any un ue true w5).mono ?_
          rintro e w6 ⟨rfl, hb6⟩
          have N6 := Lib.hid (N5.out.trans (hb6.mono (by omega)))
          have r6 := R5.out.call hb6
          have HT6 := Lib.hid (HT5.out.below (hb6.mono (B' := 1) (by omega)) (by omega))
          have hz6 := hb6.size
          have z6 : w.heap.size + 1 < w6.heap.size := by omega
          have q2 : w6.cell? ⟨w.heap.size + 1, 2, none⟩ = some (.int .i64 vn) := r6.cell 2
          have q3 : w6.cell? ⟨w.heap.size + 1, 3, none⟩ = some (.int .i64 ve) := r6.cell 3
          have q6 : w6.cell? ⟨w.heap.size + 1, 4, none⟩ = some (.int .i64 un) := r6.cell 4
          have q7 : w6.cell? ⟨w.heap.size + 1, 5, none⟩ = some (.int .i64 ue) := r6.cell 5
          clear r6 hb6 q4 q5 z5
          by_cases h5 : scalE un ue true = 0
          · rw [h5, errV_0]
            have H5 := Lib.hid h5
            clear h5
            go_wp2_with fail
            have hk : KP w6 (w.heap.size + 2) w6 := ⟨Below.refl _ _, by omega⟩
            have s1 := scOk_of H4.out
            have s2 := scOk_of H5.out
            have HS1 := Lib.hid s1
            have HS2 := Lib.hid s2
            have l1 : (canon (dyShift vn 0 ve).1.natAbs).length ≤ 50000 := dys_len s1
            have l2 : (canon (dyShift un 0 ue).1.natAbs).length ≤ 50000 := dys_len s2
            have HL1 := Lib.hid l1
            have HL2 := Lib.hid l2
            obtain ⟨C, hC⟩ : ∃ C, scCmp vn ve un ue = C := ⟨_, rfl⟩
            have HPC := Lib.hid ((pCmp_sc s1 s2).trans hC)
            have HC := Lib.hid hC
            clear s1 s2 l1 l2 hC
            go_region_held3 (fun w' => (∀ b o, b < w.heap.size + 2 → w'.cell? ⟨b, o, none⟩ = w6.cell? ⟨b, o, none⟩) ∧ KP w6 (w.heap.size + 2) w')
              (first
                | (refine KP.all ?_
                   first
                     | assumption
                     | exact hk
                     | exact hk.drew))
              (first
                | (go_at_call_of 42 (Value.agg #[.int .i64 vn, .int .i64 ve]); refine (value_any vn ve _ HS1.out (HT6.out.below (Below.refl _ w6).drew HT6.out.1)).mono ?_; (rintro e w7 ⟨v7, rfl, D7, hb7⟩; have hk7 := hk.drew.call hb7; have HT7 := (HT6.out.below (Below.refl _ w6).drew HT6.out.1).call hb7))
                | (go_at_call_of 42 (Value.agg #[.int .i64 un, .int .i64 ue]); refine (value_any un ue _ HS2.out HT7).mono ?_; (rintro e w8 ⟨v8, rfl, D8, hb8⟩; have hk8 := hk7.call hb8; have D7' := D7.below hb8 (Nat.le_refl _)))
                | (go_at_call 14; refine (pcmp_any (D7'.more hb8.size) D8 (Nat.le_refl _) HL1.out HL2.out).mono ?_; (rintro e w9 ⟨rfl, hb9⟩; have hk9 := hk8.call hb9; rw [HPC.out])))
            have N9 := Lib.hid (N6.out.trans (hk9.is.mono (by omega)))
            clear D7 D7' D8 hb7 hb8 hb9 HT7 hk7 hk8 hk9
            by_cases hc : 0 < C
            · have HE := Lib.hid (HE6.out H4.out H5.out ⟨by trivial, by rw [HC.out]; exact hc⟩)
              go_wp2_with fail
              go_ret
              exact ⟨er_n HE.out (by decide), N9.out⟩
            · have HE := Lib.hid (HE7.out H4.out H5.out (fun h => hc (by rw [← HC.out]; exact h.2)))
              go_wp2_with fail
              go_ret
              exact ⟨er_0 HE.out, N9.out⟩
          · have HE := Lib.hid (HE5.out H4.out h5)
            rw [errV_n h5]
            have H5 := Lib.hid h5
            clear h5
            go_wp2_with fail
            go_ret
            exact ⟨er_n HE.out H5.out, N6.out⟩
        · have HE := Lib.hid (HE4.out h4)
          rw [errV_n h4]
          have H4 := Lib.hid h4
          clear h4
          go_wp2_with fail
          go_ret
          exact ⟨er_n HE.out H4.out, N5.out⟩
theorem check_1 (A1 : Option Addr) (ps : List Prt) (c1 : Nat) (A2 : Option Addr) (bs : List Bk) (c2 : Nat) (A3 : Option Addr) (os : List Int) (c3 : Nat) (A : Option Addr) (args : List Int) (cap : Nat) (vn ve un ue : Int) (m : Nat) (w : World)
    (hk0 : ¬ arityM 1 < 0) (hk1 : ((args.length : Nat) : Int) = arityM 1) (hl : args.length ≤ 1000000) (hl1 : ps.length ≤ 1000000) (hl2 : bs.length ≤ 1000000) (hm : m ≤ w.heap.size) (ha : CellsAt w m A (ints args)) (ht : TabAt w) :
    Calls Tryd.prog 18 #[.agg #[.slice A1 ps.length c1, .slice A2 bs.length c2, .slice A3 os.length c3], .agg #[.int .i64 1, .slice A args.length cap, .int .i64 vn, .int .i64 ve, .int .i64 un, .int .i64 ue]] w fun e w' => e = .returned (errV (blkErr ps.length bs.length ⟨1, A, args, cap, vn, ve, un, ue⟩)) ∧ Below w.heap.size w w' := by
  have b0 : Below w.heap.size w ((w.alloc (.cells #[.slice A1 ps.length c1, .slice A2 bs.length c2, .slice A3 os.length c3] 26)).alloc (.cells #[.int .i64 1, .slice A args.length cap, .int .i64 vn, .int .i64 ve, .int .i64 un, .int .i64 ue] 39)) := ext_alloc (al_ _ _) _
  have r0 := (RowD.new_ w [.slice A1 ps.length c1, .slice A2 bs.length c2, .slice A3 os.length c3] 26).call (al_ _ (.cells #[.int .i64 1, .slice A args.length cap, .int .i64 vn, .int .i64 ve, .int .i64 un, .int .i64 ue] 39))
  have r1 := RowD.new_ (w.alloc (.cells #[.slice A1 ps.length c1, .slice A2 bs.length c2, .slice A3 os.length c3] 26)) [.int .i64 1, .slice A args.length cap, .int .i64 vn, .int .i64 ve, .int .i64 un, .int .i64 ue] 39
  rw [show (w.alloc (.cells #[.slice A1 ps.length c1, .slice A2 bs.length c2, .slice A3 os.length c3] 26)).heap.size = w.heap.size + 1 by simp] at r1
  have HT := Lib.hid ht
  have HA := Lib.hid ha
  have HK0 := Lib.hid hk0
  have HK1 := Lib.hid hk1
  obtain ⟨K, hK⟩ : ∃ K, arityM 1 = K := ⟨_, rfl⟩
  have HKK := Lib.hid hK
  have hne : (((args.length : Nat) : Int) != K) = false := by rw [hk1, hK]; simp
  have hkk : 0 ≤ K := by omega
  clear ht ha hk0 hk1 hK
  go_enter Tryd.func18, Tryd.ntmps18
  have HM : Hid (mostM ps.length bs.length 1 = bs.length) := Lib.hid (rfl)
  have HV : Hid (valU 1 = true) := Lib.hid (by decide)
  have HU : Hid (clipU 1 = false) := Lib.hid (by decide)
  go_wp2_with (go_at_call 40; refine (arity_any _ _).mono ?_; rintro e w1 ⟨rfl, rfl⟩; rw [HKK.out])
  obtain ⟨W, hW⟩ : ∃ W, W = ((w.alloc (.cells #[.slice A1 ps.length c1, .slice A2 bs.length c2, .slice A3 os.length c3] 26)).alloc (.cells #[.int .i64 1, .slice A args.length cap, .int .i64 vn, .int .i64 ve, .int .i64 un, .int .i64 ue] 39)) := ⟨_, rfl⟩
  rw [← hW]
  rw [← hW] at r0 r1 b0
  have hWs : W.heap.size = w.heap.size + 2 := by rw [hW]; simp
  clear hW
  have HTW := Lib.hid (HT.out.below b0 HT.out.1)
  have q0 : W.cell? ⟨w.heap.size + 1, 0, none⟩ = some (.int .i64 1) := r1.cell 0
  have q2 : W.cell? ⟨w.heap.size + 1, 2, none⟩ = some (.int .i64 vn) := r1.cell 2
  have q3 : W.cell? ⟨w.heap.size + 1, 3, none⟩ = some (.int .i64 ve) := r1.cell 3
  have HB0 := Lib.hid b0
  have R1 := Lib.hid r1
  have HA2 := Lib.hid (HA.out.below b0 hm)
  have hbs1 : (W.heap.size : Int) = w.heap.size + 2 := by omega
  clear r0 r1 b0
  go_loopw [36] (fun i wr => argRel args bs.length W i wr) (fun i _ => args.length - (intOf i).toNat)
  case atStart => exact ⟨0, Nat.zero_le _, rfl, rfl, rfl⟩
  case round =>
    as_aux_lemma =>
      obtain ⟨t, ht, rfl, hf, rfl⟩ := hrel
      have HF := Lib.hid hf
      clear hf
      by_cases hlt : t < args.length
      · obtain ⟨ab, ao, z, rfl, hab, hab2, hz, hzc⟩ := HA2.out.int_ hlt
        have HZ := Lib.hid hz
        clear hz
        by_cases h0 : z < 0
        · have hE := Lib.hid (be3 (np := ps.length) (nb := bs.length) (b := ⟨1, some ⟨ab, ao, none⟩, args, cap, vn, ve, un, ue⟩) (Int.not_lt.2 HK0.out) HK1.out HM.out (out_hit HZ.out (by omega) HF.out))
          go_wp2_with fail
          go_ret
          exact ⟨er_n (k := 10) hE.out (by decide), HB0.out⟩
        · have h1 : 0 ≤ z := by omega
          clear h0
          by_cases h2 : z < (bs.length : Int)
          · have HZ2 := Lib.hid (out_step HZ.out ⟨h1, h2⟩ HF.out)
            go_wp2_with fail
            all_goals try (exfalso; omega)
            exact ⟨⟨t + 1, by omega, by go_num, HZ2.out, rfl⟩, by simp [intOf]; omega⟩
          · have hE := Lib.hid (be3 (np := ps.length) (nb := bs.length) (b := ⟨1, some ⟨ab, ao, none⟩, args, cap, vn, ve, un, ue⟩) (Int.not_lt.2 HK0.out) HK1.out HM.out (out_hit HZ.out (by omega) HF.out))
            have h3 : (bs.length : Int) ≤ z := by omega
            clear h2
            go_wp2_with fail
            all_goals try (exfalso; omega)
            go_ret
            exact ⟨er_n (k := 10) hE.out (by decide), HB0.out⟩
      · have P1 := Lib.hid (fe_all (k := t) (by rw [List.length_map]; omega) HF.out)
        clear HF
        have hE4 := fun h => be4 (np := ps.length) (nb := bs.length) (b := ⟨1, A, args, cap, vn, ve, un, ue⟩) (Int.not_lt.2 HK0.out) HK1.out HM.out P1.out HV.out h
        have hE5 := fun h4 h => be5 (np := ps.length) (nb := bs.length) (b := ⟨1, A, args, cap, vn, ve, un, ue⟩) (Int.not_lt.2 HK0.out) HK1.out HM.out P1.out HV.out h4 HU.out h
        have hE6 := fun h4 h5 h => be6 (np := ps.length) (nb := bs.length) (b := ⟨1, A, args, cap, vn, ve, un, ue⟩) (Int.not_lt.2 HK0.out) HK1.out HM.out P1.out HV.out h4 HU.out h5 h
        have hE7 := fun h4 h5 h => be7 (np := ps.length) (nb := bs.length) (b := ⟨1, A, args, cap, vn, ve, un, ue⟩) (Int.not_lt.2 HK0.out) HK1.out HM.out P1.out HV.out h4 HU.out h5 h
        dsimp only at hE4 hE5 hE6 hE7
        have HE4 := Lib.hid hE4
        have HE5 := Lib.hid hE5
        have HE6 := Lib.hid hE6
        have HE7 := Lib.hid hE7
        clear hE4 hE5 hE6 hE7
        go_wp2_with fail
        go_at_call 41
        refine (scalar_any vn ve true wr).mono ?_
        rintro e w5 ⟨rfl, hb5⟩
        have N5 := Lib.hid (HB0.out.trans (hb5.mono (by omega)))
        have r5 := R1.out.call hb5
        have HT5 := Lib.hid (HTW.out.below (hb5.mono (B' := 1) (by omega)) (by omega))
        have hz5 := hb5.size
        have z5 : w.heap.size + 1 < w5.heap.size := by omega
        have q4 : w5.cell? ⟨w.heap.size + 1, 4, none⟩ = some (.int .i64 un) := r5.cell 4
        have q5 : w5.cell? ⟨w.heap.size + 1, 5, none⟩ = some (.int .i64 ue) := r5.cell 5
        have R5 := Lib.hid r5
        clear r5 hb5 q0 q2 q3 hlt hbs1
        by_cases h4 : scalE vn ve true = 0
        · rw [h4, errV_0]
          have H4 := Lib.hid h4
          clear h4
          go_wp2_with fail
          go_at_call 41
          refine (scalar_any un ue false w5).mono ?_
          rintro e w6 ⟨rfl, hb6⟩
          have N6 := Lib.hid (N5.out.trans (hb6.mono (by omega)))
          have r6 := R5.out.call hb6
          have HT6 := Lib.hid (HT5.out.below (hb6.mono (B' := 1) (by omega)) (by omega))
          have hz6 := hb6.size
          have z6 : w.heap.size + 1 < w6.heap.size := by omega
          have q2 : w6.cell? ⟨w.heap.size + 1, 2, none⟩ = some (.int .i64 vn) := r6.cell 2
          have q3 : w6.cell? ⟨w.heap.size + 1, 3, none⟩ = some (.int .i64 ve) := r6.cell 3
          have q6 : w6.cell? ⟨w.heap.size + 1, 4, none⟩ = some (.int .i64 un) := r6.cell 4
          have q7 : w6.cell? ⟨w.heap.size + 1, 5, none⟩ = some (.int .i64 ue) := r6.cell 5
          clear r6 hb6 q4 q5 z5
          by_cases h5 : scalE un ue false = 0
          · rw [h5, errV_0]
            have H5 := Lib.hid h5
            clear h5
            go_wp2_with fail
            go_quiet (fail)
            go_wp2_with fail
            go_ret
            exact ⟨er_0 (HE7.out H4.out H5.out (fun h => by cases h.1)), by repeat (first | exact N6.out | refine ext_drew ?_ | refine ext_drewN ?_ _)⟩
          · have HE := Lib.hid (HE5.out H4.out h5)
            rw [errV_n h5]
            have H5 := Lib.hid h5
            clear h5
            go_wp2_with fail
            go_ret
            exact ⟨er_n HE.out H5.out, N6.out⟩
        · have HE := Lib.hid (HE4.out h4)
          rw [errV_n h4]
          have H4 := Lib.hid h4
          clear h4
          go_wp2_with fail
          go_ret
          exact ⟨er_n HE.out H4.out, N5.out⟩
theorem check_2 (A1 : Option Addr) (ps : List Prt) (c1 : Nat) (A2 : Option Addr) (bs : List Bk) (c2 : Nat) (A3 : Option Addr) (os : List Int) (c3 : Nat) (A : Option Addr) (args : List Int) (cap : Nat) (vn ve un ue : Int) (m : Nat) (w : World)
    (hk0 : ¬ arityM 2 < 0) (hk1 : ((args.length : Nat) : Int) = arityM 2) (hl : args.length ≤ 1000000) (hl1 : ps.length ≤ 1000000) (hl2 : bs.length ≤ 1000000) (hm : m ≤ w.heap.size) (ha : CellsAt w m A (ints args)) (ht : TabAt w) :
    Calls Tryd.prog 18 #[.agg #[.slice A1 ps.length c1, .slice A2 bs.length c2, .slice A3 os.length c3], .agg #[.int .i64 2, .slice A args.length cap, .int .i64 vn, .int .i64 ve, .int .i64 un, .int .i64 ue]] w fun e w' => e = .returned (errV (blkErr ps.length bs.length ⟨2, A, args, cap, vn, ve, un, ue⟩)) ∧ Below w.heap.size w w' := by
  have b0 : Below w.heap.size w ((w.alloc (.cells #[.slice A1 ps.length c1, .slice A2 bs.length c2, .slice A3 os.length c3] 26)).alloc (.cells #[.int .i64 2, .slice A args.length cap, .int .i64 vn, .int .i64 ve, .int .i64 un, .int .i64 ue] 39)) := ext_alloc (al_ _ _) _
  have r0 := (RowD.new_ w [.slice A1 ps.length c1, .slice A2 bs.length c2, .slice A3 os.length c3] 26).call (al_ _ (.cells #[.int .i64 2, .slice A args.length cap, .int .i64 vn, .int .i64 ve, .int .i64 un, .int .i64 ue] 39))
  have r1 := RowD.new_ (w.alloc (.cells #[.slice A1 ps.length c1, .slice A2 bs.length c2, .slice A3 os.length c3] 26)) [.int .i64 2, .slice A args.length cap, .int .i64 vn, .int .i64 ve, .int .i64 un, .int .i64 ue] 39
  rw [show (w.alloc (.cells #[.slice A1 ps.length c1, .slice A2 bs.length c2, .slice A3 os.length c3] 26)).heap.size = w.heap.size + 1 by simp] at r1
  have HT := Lib.hid ht
  have HA := Lib.hid ha
  have HK0 := Lib.hid hk0
  have HK1 := Lib.hid hk1
  obtain ⟨K, hK⟩ : ∃ K, arityM 2 = K := ⟨_, rfl⟩
  have HKK := Lib.hid hK
  have hne : (((args.length : Nat) : Int) != K) = false := by rw [hk1, hK]; simp
  have hkk : 0 ≤ K := by omega
  clear ht ha hk0 hk1 hK
  go_enter Tryd.func18, Tryd.ntmps18
  have HM : Hid (mostM ps.length bs.length 2 = bs.length) := Lib.hid (rfl)
  have HV : Hid (valU 2 = true) := Lib.hid (by decide)
  have HU : Hid (clipU 2 = false) := Lib.hid (by decide)
  go_wp2_with (go_at_call 40; refine (arity_any _ _).mono ?_; rintro e w1 ⟨rfl, rfl⟩; rw [HKK.out])
  obtain ⟨W, hW⟩ : ∃ W, W = ((w.alloc (.cells #[.slice A1 ps.length c1, .slice A2 bs.length c2, .slice A3 os.length c3] 26)).alloc (.cells #[.int .i64 2, .slice A args.length cap, .int .i64 vn, .int .i64 ve, .int .i64 un, .int .i64 ue] 39)) := ⟨_, rfl⟩
  rw [← hW]
  rw [← hW] at r0 r1 b0
  have hWs : W.heap.size = w.heap.size + 2 := by rw [hW]; simp
  clear hW
  have HTW := Lib.hid (HT.out.below b0 HT.out.1)
  have q0 : W.cell? ⟨w.heap.size + 1, 0, none⟩ = some (.int .i64 2) := r1.cell 0
  have q2 : W.cell? ⟨w.heap.size + 1, 2, none⟩ = some (.int .i64 vn) := r1.cell 2
  have q3 : W.cell? ⟨w.heap.size + 1, 3, none⟩ = some (.int .i64 ve) := r1.cell 3
  have HB0 := Lib.hid b0
  have R1 := Lib.hid r1
  have HA2 := Lib.hid (HA.out.below b0 hm)
  have hbs1 : (W.heap.size : Int) = w.heap.size + 2 := by omega
  clear r0 r1 b0
  go_loopw [36] (fun i wr => argRel args bs.length W i wr) (fun i _ => args.length - (intOf i).toNat)
  case atStart => exact ⟨0, Nat.zero_le _, rfl, rfl, rfl⟩
  case round =>
    as_aux_lemma =>
      obtain ⟨t, ht, rfl, hf, rfl⟩ := hrel
      have HF := Lib.hid hf
      clear hf
      by_cases hlt : t < args.length
      · obtain ⟨ab, ao, z, rfl, hab, hab2, hz, hzc⟩ := HA2.out.int_ hlt
        have HZ := Lib.hid hz
        clear hz
        by_cases h0 : z < 0
        · have hE := Lib.hid (be3 (np := ps.length) (nb := bs.length) (b := ⟨2, some ⟨ab, ao, none⟩, args, cap, vn, ve, un, ue⟩) (Int.not_lt.2 HK0.out) HK1.out HM.out (out_hit HZ.out (by omega) HF.out))
          go_wp2_with fail
          go_ret
          exact ⟨er_n (k := 10) hE.out (by decide), HB0.out⟩
        · have h1 : 0 ≤ z := by omega
          clear h0
          by_cases h2 : z < (bs.length : Int)
          · have HZ2 := Lib.hid (out_step HZ.out ⟨h1, h2⟩ HF.out)
            go_wp2_with fail
            all_goals try (exfalso; omega)
            exact ⟨⟨t + 1, by omega, by go_num, HZ2.out, rfl⟩, by simp [intOf]; omega⟩
          · have hE := Lib.hid (be3 (np := ps.length) (nb := bs.length) (b := ⟨2, some ⟨ab, ao, none⟩, args, cap, vn, ve, un, ue⟩) (Int.not_lt.2 HK0.out) HK1.out HM.out (out_hit HZ.out (by omega) HF.out))
            have h3 : (bs.length : Int) ≤ z := by omega
            clear h2
            go_wp2_with fail
            all_goals try (exfalso; omega)
            go_ret
            exact ⟨er_n (k := 10) hE.out (by decide), HB0.out⟩
      · have P1 := Lib.hid (fe_all (k := t) (by rw [List.length_map]; omega) HF.out)
        clear HF
        have hE4 := fun h => be4 (np := ps.length) (nb := bs.length) (b := ⟨2, A, args, cap, vn, ve, un, ue⟩) (Int.not_lt.2 HK0.out) HK1.out HM.out P1.out HV.out h
        have hE5 := fun h4 h => be5 (np := ps.length) (nb := bs.length) (b := ⟨2, A, args, cap, vn, ve, un, ue⟩) (Int.not_lt.2 HK0.out) HK1.out HM.out P1.out HV.out h4 HU.out h
        have hE6 := fun h4 h5 h => be6 (np := ps.length) (nb := bs.length) (b := ⟨2, A, args, cap, vn, ve, un, ue⟩) (Int.not_lt.2 HK0.out) HK1.out HM.out P1.out HV.out h4 HU.out h5 h
        have hE7 := fun h4 h5 h => be7 (np := ps.length) (nb := bs.length) (b := ⟨2, A, args, cap, vn, ve, un, ue⟩) (Int.not_lt.2 HK0.out) HK1.out HM.out P1.out HV.out h4 HU.out h5 h
        dsimp only at hE4 hE5 hE6 hE7
        have HE4 := Lib.hid hE4
        have HE5 := Lib.hid hE5
        have HE6 := Lib.hid hE6
        have HE7 := Lib.hid hE7
        clear hE4 hE5 hE6 hE7
        go_wp2_with fail
        go_at_call 41
        refine (scalar_any vn ve true wr).mono ?_
        rintro e w5 ⟨rfl, hb5⟩
        have N5 := Lib.hid (HB0.out.trans (hb5.mono (by omega)))
        have r5 := R1.out.call hb5
        have HT5 := Lib.hid (HTW.out.below (hb5.mono (B' := 1) (by omega)) (by omega))
        have hz5 := hb5.size
        have z5 : w.heap.size + 1 < w5.heap.size := by omega
        have q4 : w5.cell? ⟨w.heap.size + 1, 4, none⟩ = some (.int .i64 un) := r5.cell 4
        have q5 : w5.cell? ⟨w.heap.size + 1, 5, none⟩ = some (.int .i64 ue) := r5.cell 5
        have R5 := Lib.hid r5
        clear r5 hb5 q0 q2 q3 hlt hbs1
        by_cases h4 : scalE vn ve true = 0
        · rw [h4, errV_0]
          have H4 := Lib.hid h4
          clear h4
          go_wp2_with fail
          go_at_call 41
          refine (scalar_any un ue false w5).mono ?_
          rintro e w6 ⟨rfl, hb6⟩
          have N6 := Lib.hid (N5.out.trans (hb6.mono (by omega)))
          have r6 := R5.out.call hb6
          have HT6 := Lib.hid (HT5.out.below (hb6.mono (B' := 1) (by omega)) (by omega))
          have hz6 := hb6.size
          have z6 : w.heap.size + 1 < w6.heap.size := by omega
          have q2 : w6.cell? ⟨w.heap.size + 1, 2, none⟩ = some (.int .i64 vn) := r6.cell 2
          have q3 : w6.cell? ⟨w.heap.size + 1, 3, none⟩ = some (.int .i64 ve) := r6.cell 3
          have q6 : w6.cell? ⟨w.heap.size + 1, 4, none⟩ = some (.int .i64 un) := r6.cell 4
          have q7 : w6.cell? ⟨w.heap.size + 1, 5, none⟩ = some (.int .i64 ue) := r6.cell 5
          clear r6 hb6 q4 q5 z5
          by_cases h5 : scalE un ue false = 0
          · rw [h5, errV_0]
            have H5 := Lib.hid h5
            clear h5
            go_wp2_with fail
            go_quiet (fail)
            go_wp2_with fail
            go_ret
            exact ⟨er_0 (HE7.out H4.out H5.out (fun h => by cases h.1)), by repeat (first | exact N6.out | refine ext_drew ?_ | refine ext_drewN ?_ _)⟩
          · have HE := Lib.hid (HE5.out H4.out h5)
            rw [errV_n h5]
            have H5 := Lib.hid h5
            clear h5
            go_wp2_with fail
            go_ret
            exact ⟨er_n HE.out H5.out, N6.out⟩
        · have HE := Lib.hid (HE4.out h4)
          rw [errV_n h4]
          have H4 := Lib.hid h4
          clear h4
          go_wp2_with fail
          go_ret
          exact ⟨er_n HE.out H4.out, N5.out⟩
theorem check_6 (A1 : Option Addr) (ps : List Prt) (c1 : Nat) (A2 : Option Addr) (bs : List Bk) (c2 : Nat) (A3 : Option Addr) (os : List Int) (c3 : Nat) (A : Option Addr) (args : List Int) (cap : Nat) (vn ve un ue : Int) (m : Nat) (w : World)
    (hk0 : ¬ arityM 6 < 0) (hk1 : ((args.length : Nat) : Int) = arityM 6) (hl : args.length ≤ 1000000) (hl1 : ps.length ≤ 1000000) (hl2 : bs.length ≤ 1000000) (hm : m ≤ w.heap.size) (ha : CellsAt w m A (ints args)) (ht : TabAt w) :
    Calls Tryd.prog 18 #[.agg #[.slice A1 ps.length c1, .slice A2 bs.length c2, .slice A3 os.length c3], .agg #[.int .i64 6, .slice A args.length cap, .int .i64 vn, .int .i64 ve, .int .i64 un, .int .i64 ue]] w fun e w' => e = .returned (errV (blkErr ps.length bs.length ⟨6, A, args, cap, vn, ve, un, ue⟩)) ∧ Below w.heap.size w w' := by
  have b0 : Below w.heap.size w ((w.alloc (.cells #[.slice A1 ps.length c1, .slice A2 bs.length c2, .slice A3 os.length c3] 26)).alloc (.cells #[.int .i64 6, .slice A args.length cap, .int .i64 vn, .int .i64 ve, .int .i64 un, .int .i64 ue] 39)) := ext_alloc (al_ _ _) _
  have r0 := (RowD.new_ w [.slice A1 ps.length c1, .slice A2 bs.length c2, .slice A3 os.length c3] 26).call (al_ _ (.cells #[.int .i64 6, .slice A args.length cap, .int .i64 vn, .int .i64 ve, .int .i64 un, .int .i64 ue] 39))
  have r1 := RowD.new_ (w.alloc (.cells #[.slice A1 ps.length c1, .slice A2 bs.length c2, .slice A3 os.length c3] 26)) [.int .i64 6, .slice A args.length cap, .int .i64 vn, .int .i64 ve, .int .i64 un, .int .i64 ue] 39
  rw [show (w.alloc (.cells #[.slice A1 ps.length c1, .slice A2 bs.length c2, .slice A3 os.length c3] 26)).heap.size = w.heap.size + 1 by simp] at r1
  have HT := Lib.hid ht
  have HA := Lib.hid ha
  have HK0 := Lib.hid hk0
  have HK1 := Lib.hid hk1
  obtain ⟨K, hK⟩ : ∃ K, arityM 6 = K := ⟨_, rfl⟩
  have HKK := Lib.hid hK
  have hne : (((args.length : Nat) : Int) != K) = false := by rw [hk1, hK]; simp
  have hkk : 0 ≤ K := by omega
  clear ht ha hk0 hk1 hK
  go_enter Tryd.func18, Tryd.ntmps18
  have HM : Hid (mostM ps.length bs.length 6 = bs.length) := Lib.hid (rfl)
  have HV : Hid (valU 6 = true) := Lib.hid (by decide)
  have HU : Hid (clipU 6 = false) := Lib.hid (by decide)
  go_wp2_with (go_at_call 40; refine (arity_any _ _).mono ?_; rintro e w1 ⟨rfl, rfl⟩; rw [HKK.out])
  obtain ⟨W, hW⟩ : ∃ W, W = ((w.alloc (.cells #[.slice A1 ps.length c1, .slice A2 bs.length c2, .slice A3 os.length c3] 26)).alloc (.cells #[.int .i64 6, .slice A args.length cap, .int .i64 vn, .int .i64 ve, .int .i64 un, .int .i64 ue] 39)) := ⟨_, rfl⟩
  rw [← hW]
  rw [← hW] at r0 r1 b0
  have hWs : W.heap.size = w.heap.size + 2 := by rw [hW]; simp
  clear hW
  have HTW := Lib.hid (HT.out.below b0 HT.out.1)
  have q0 : W.cell? ⟨w.heap.size + 1, 0, none⟩ = some (.int .i64 6) := r1.cell 0
  have q2 : W.cell? ⟨w.heap.size + 1, 2, none⟩ = some (.int .i64 vn) := r1.cell 2
  have q3 : W.cell? ⟨w.heap.size + 1, 3, none⟩ = some (.int .i64 ve) := r1.cell 3
  have HB0 := Lib.hid b0
  have R1 := Lib.hid r1
  have HA2 := Lib.hid (HA.out.below b0 hm)
  have hbs1 : (W.heap.size : Int) = w.heap.size + 2 := by omega
  clear r0 r1 b0
  go_loopw [36] (fun i wr => argRel args bs.length W i wr) (fun i _ => args.length - (intOf i).toNat)
  case atStart => exact ⟨0, Nat.zero_le _, rfl, rfl, rfl⟩
  case round =>
    as_aux_lemma =>
      obtain ⟨t, ht, rfl, hf, rfl⟩ := hrel
      have HF := Lib.hid hf
      clear hf
      by_cases hlt : t < args.length
      · obtain ⟨ab, ao, z, rfl, hab, hab2, hz, hzc⟩ := HA2.out.int_ hlt
        have HZ := Lib.hid hz
        clear hz
        by_cases h0 : z < 0
        · have hE := Lib.hid (be3 (np := ps.length) (nb := bs.length) (b := ⟨6, some ⟨ab, ao, none⟩, args, cap, vn, ve, un, ue⟩) (Int.not_lt.2 HK0.out) HK1.out HM.out (out_hit HZ.out (by omega) HF.out))
          go_wp2_with fail
          go_ret
          exact ⟨er_n (k := 10) hE.out (by decide), HB0.out⟩
        · have h1 : 0 ≤ z := by omega
          clear h0
          by_cases h2 : z < (bs.length : Int)
          · have HZ2 := Lib.hid (out_step HZ.out ⟨h1, h2⟩ HF.out)
            go_wp2_with fail
            all_goals try (exfalso; omega)
            exact ⟨⟨t + 1, by omega, by go_num, HZ2.out, rfl⟩, by simp [intOf]; omega⟩
          · have hE := Lib.hid (be3 (np := ps.length) (nb := bs.length) (b := ⟨6, some ⟨ab, ao, none⟩, args, cap, vn, ve, un, ue⟩) (Int.not_lt.2 HK0.out) HK1.out HM.out (out_hit HZ.out (by omega) HF.out))
            have h3 : (bs.length : Int) ≤ z := by omega
            clear h2
            go_wp2_with fail
            all_goals try (exfalso; omega)
            go_ret
            exact ⟨er_n (k := 10) hE.out (by decide), HB0.out⟩
      · have P1 := Lib.hid (fe_all (k := t) (by rw [List.length_map]; omega) HF.out)
        clear HF
        have hE4 := fun h => be4 (np := ps.length) (nb := bs.length) (b := ⟨6, A, args, cap, vn, ve, un, ue⟩) (Int.not_lt.2 HK0.out) HK1.out HM.out P1.out HV.out h
        have hE5 := fun h4 h => be5 (np := ps.length) (nb := bs.length) (b := ⟨6, A, args, cap, vn, ve, un, ue⟩) (Int.not_lt.2 HK0.out) HK1.out HM.out P1.out HV.out h4 HU.out h
        have hE6 := fun h4 h5 h => be6 (np := ps.length) (nb := bs.length) (b := ⟨6, A, args, cap, vn, ve, un, ue⟩) (Int.not_lt.2 HK0.out) HK1.out HM.out P1.out HV.out h4 HU.out h5 h
        have hE7 := fun h4 h5 h => be7 (np := ps.length) (nb := bs.length) (b := ⟨6, A, args, cap, vn, ve, un, ue⟩) (Int.not_lt.2 HK0.out) HK1.out HM.out P1.out HV.out h4 HU.out h5 h
        dsimp only at hE4 hE5 hE6 hE7
        have HE4 := Lib.hid hE4
        have HE5 := Lib.hid hE5
        have HE6 := Lib.hid hE6
        have HE7 := Lib.hid hE7
        clear hE4 hE5 hE6 hE7
        go_wp2_with fail
        go_at_call 41
        refine (scalar_any vn ve true wr).mono ?_
        rintro e w5 ⟨rfl, hb5⟩
        have N5 := Lib.hid (HB0.out.trans (hb5.mono (by omega)))
        have r5 := R1.out.call hb5
        have HT5 := Lib.hid (HTW.out.below (hb5.mono (B' := 1) (by omega)) (by omega))
        have hz5 := hb5.size
        have z5 : w.heap.size + 1 < w5.heap.size := by omega
        have q4 : w5.cell? ⟨w.heap.size + 1, 4, none⟩ = some (.int .i64 un) := r5.cell 4
        have q5 : w5.cell? ⟨w.heap.size + 1, 5, none⟩ = some (.int .i64 ue) := r5.cell 5
        have R5 := Lib.hid r5
        clear r5 hb5 q0 q2 q3 hlt hbs1
        by_cases h4 : scalE vn ve true = 0
        · rw [h4, errV_0]
          have H4 := Lib.hid h4
          clear h4
          go_wp2_with fail
          go_at_call 41
          refine (scalar_any un ue false w5).mono ?_
          rintro e w6 ⟨rfl, hb6⟩
          have N6 := Lib.hid (N5.out.trans (hb6.mono (by omega)))
          have r6 := R5.out.call hb6
          have HT6 := Lib.hid (HT5.out.below (hb6.mono (B' := 1) (by omega)) (by omega))
          have hz6 := hb6.size
          have z6 : w.heap.size + 1 < w6.heap.size := by omega
          have q2 : w6.cell? ⟨w.heap.size + 1, 2, none⟩ = some (.int .i64 vn) := r6.cell 2
          have q3 : w6.cell? ⟨w.heap.size + 1, 3, none⟩ = some (.int .i64 ve) := r6.cell 3
          have q6 : w6.cell? ⟨w.heap.size + 1, 4, none⟩ = some (.int .i64 un) := r6.cell 4
          have q7 : w6.cell? ⟨w.heap.size + 1, 5, none⟩ = some (.int .i64 ue) := r6.cell 5
          clear r6 hb6 q4 q5 z5
          by_cases h5 : scalE un ue false = 0
          · rw [h5, errV_0]
            have H5 := Lib.hid h5
            clear h5
            go_wp2_with fail
            go_quiet (fail)
            go_wp2_with fail
            go_ret
            exact ⟨er_0 (HE7.out H4.out H5.out (fun h => by cases h.1)), by repeat (first | exact N6.out | refine ext_drew ?_ | refine ext_drewN ?_ _)⟩
          · have HE := Lib.hid (HE5.out H4.out h5)
            rw [errV_n h5]
            have H5 := Lib.hid h5
            clear h5
            go_wp2_with fail
            go_ret
            exact ⟨er_n HE.out H5.out, N6.out⟩
        · have HE := Lib.hid (HE4.out h4)
          rw [errV_n h4]
          have H4 := Lib.hid h4
          clear h4
          go_wp2_with fail
          go_ret
          exact ⟨er_n HE.out H4.out, N5.out⟩
theorem check_x (A1 : Option Addr) (ps : List Prt) (c1 : Nat) (A2 : Option Addr) (bs : List Bk) (c2 : Nat) (A3 : Option Addr) (os : List Int) (c3 : Nat) (kind : Int) (A : Option Addr) (args : List Int) (cap : Nat) (vn ve un ue : Int) (m : Nat) (w : World) (h0 : ¬ kind = 0) (h1 : ¬ kind = 1) (h2 : ¬ kind = 2) (h6 : ¬ kind = 6) (h11 : ¬ kind = 11)
    (hk0 : ¬ arityM kind < 0) (hk1 : ((args.length : Nat) : Int) = arityM kind) (hl : args.length ≤ 1000000) (hl1 : ps.length ≤ 1000000) (hl2 : bs.length ≤ 1000000) (hm : m ≤ w.heap.size) (ha : CellsAt w m A (ints args)) (ht : TabAt w) :
    Calls Tryd.prog 18 #[.agg #[.slice A1 ps.length c1, .slice A2 bs.length c2, .slice A3 os.length c3], .agg #[.int .i64 kind, .slice A args.length cap, .int .i64 vn, .int .i64 ve, .int .i64 un, .int .i64 ue]] w fun e w' => e = .returned (errV (blkErr ps.length bs.length ⟨kind, A, args, cap, vn, ve, un, ue⟩)) ∧ Below w.heap.size w w' := by
  have b0 : Below w.heap.size w ((w.alloc (.cells #[.slice A1 ps.length c1, .slice A2 bs.length c2, .slice A3 os.length c3] 26)).alloc (.cells #[.int .i64 kind, .slice A args.length cap, .int .i64 vn, .int .i64 ve, .int .i64 un, .int .i64 ue] 39)) := ext_alloc (al_ _ _) _
  have r0 := (RowD.new_ w [.slice A1 ps.length c1, .slice A2 bs.length c2, .slice A3 os.length c3] 26).call (al_ _ (.cells #[.int .i64 kind, .slice A args.length cap, .int .i64 vn, .int .i64 ve, .int .i64 un, .int .i64 ue] 39))
  have r1 := RowD.new_ (w.alloc (.cells #[.slice A1 ps.length c1, .slice A2 bs.length c2, .slice A3 os.length c3] 26)) [.int .i64 kind, .slice A args.length cap, .int .i64 vn, .int .i64 ve, .int .i64 un, .int .i64 ue] 39
  rw [show (w.alloc (.cells #[.slice A1 ps.length c1, .slice A2 bs.length c2, .slice A3 os.length c3] 26)).heap.size = w.heap.size + 1 by simp] at r1
  have HT := Lib.hid ht
  have HA := Lib.hid ha
  have HK0 := Lib.hid hk0
  have HK1 := Lib.hid hk1
  obtain ⟨K, hK⟩ : ∃ K, arityM kind = K := ⟨_, rfl⟩
  have HKK := Lib.hid hK
  have hne : (((args.length : Nat) : Int) != K) = false := by rw [hk1, hK]; simp
  have hkk : 0 ≤ K := by omega
  clear ht ha hk0 hk1 hK
  have e0 : (kind == 0) = false := by simpa using h0
  have e1 : (kind == 1) = false := by simpa using h1
  have e2 : (kind == 2) = false := by simpa using h2
  have e6 : (kind == 6) = false := by simpa using h6
  have e11 : (kind == 11) = false := by simpa using h11
  go_enter Tryd.func18, Tryd.ntmps18
  have HM : Hid (mostM ps.length bs.length kind = bs.length) := Lib.hid (if_neg h0)
  have HV : Hid (valU kind = false) := Lib.hid (by unfold valU; rw [e11, e1, e2, e6]; rfl)
  have HU : Hid (clipU kind = false) := Lib.hid (e11)
  clear h0 h1 h2 h6 h11
  go_wp2_with (go_at_call 40; refine (arity_any _ _).mono ?_; rintro e w1 ⟨rfl, rfl⟩; rw [HKK.out])
  obtain ⟨W, hW⟩ : ∃ W, W = ((w.alloc (.cells #[.slice A1 ps.length c1, .slice A2 bs.length c2, .slice A3 os.length c3] 26)).alloc (.cells #[.int .i64 kind, .slice A args.length cap, .int .i64 vn, .int .i64 ve, .int .i64 un, .int .i64 ue] 39)) := ⟨_, rfl⟩
  rw [← hW]
  rw [← hW] at r0 r1 b0
  have hWs : W.heap.size = w.heap.size + 2 := by rw [hW]; simp
  clear hW
  have HTW := Lib.hid (HT.out.below b0 HT.out.1)
  have q0 : W.cell? ⟨w.heap.size + 1, 0, none⟩ = some (.int .i64 kind) := r1.cell 0
  have q2 : W.cell? ⟨w.heap.size + 1, 2, none⟩ = some (.int .i64 vn) := r1.cell 2
  have q3 : W.cell? ⟨w.heap.size + 1, 3, none⟩ = some (.int .i64 ve) := r1.cell 3
  have HB0 := Lib.hid b0
  have R1 := Lib.hid r1
  have HA2 := Lib.hid (HA.out.below b0 hm)
  have hbs1 : (W.heap.size : Int) = w.heap.size + 2 := by omega
  clear r0 r1 b0
  go_loopw [36] (fun i wr => argRel args bs.length W i wr) (fun i _ => args.length - (intOf i).toNat)
  case atStart => exact ⟨0, Nat.zero_le _, rfl, rfl, rfl⟩
  case round =>
    as_aux_lemma =>
      obtain ⟨t, ht, rfl, hf, rfl⟩ := hrel
      have HF := Lib.hid hf
      clear hf
      by_cases hlt : t < args.length
      · obtain ⟨ab, ao, z, rfl, hab, hab2, hz, hzc⟩ := HA2.out.int_ hlt
        have HZ := Lib.hid hz
        clear hz
        by_cases h0 : z < 0
        · have hE := Lib.hid (be3 (np := ps.length) (nb := bs.length) (b := ⟨kind, some ⟨ab, ao, none⟩, args, cap, vn, ve, un, ue⟩) (Int.not_lt.2 HK0.out) HK1.out HM.out (out_hit HZ.out (by omega) HF.out))
          go_wp2_with fail
          go_ret
          exact ⟨er_n (k := 10) hE.out (by decide), HB0.out⟩
        · have h1 : 0 ≤ z := by omega
          clear h0
          by_cases h2 : z < (bs.length : Int)
          · have HZ2 := Lib.hid (out_step HZ.out ⟨h1, h2⟩ HF.out)
            go_wp2_with fail
            all_goals try (exfalso; omega)
            exact ⟨⟨t + 1, by omega, by go_num, HZ2.out, rfl⟩, by simp [intOf]; omega⟩
          · have hE := Lib.hid (be3 (np := ps.length) (nb := bs.length) (b := ⟨kind, some ⟨ab, ao, none⟩, args, cap, vn, ve, un, ue⟩) (Int.not_lt.2 HK0.out) HK1.out HM.out (out_hit HZ.out (by omega) HF.out))
            have h3 : (bs.length : Int) ≤ z := by omega
            clear h2
            go_wp2_with fail
            all_goals try (exfalso; omega)
            go_ret
            exact ⟨er_n (k := 10) hE.out (by decide), HB0.out⟩
      · have P1 := Lib.hid (fe_all (k := t) (by rw [List.length_map]; omega) HF.out)
        clear HF
        have hE4 := fun h => be4 (np := ps.length) (nb := bs.length) (b := ⟨kind, A, args, cap, vn, ve, un, ue⟩) (Int.not_lt.2 HK0.out) HK1.out HM.out P1.out HV.out h
        have hE5 := fun h4 h => be5 (np := ps.length) (nb := bs.length) (b := ⟨kind, A, args, cap, vn, ve, un, ue⟩) (Int.not_lt.2 HK0.out) HK1.out HM.out P1.out HV.out h4 HU.out h
        have hE6 := fun h4 h5 h => be6 (np := ps.length) (nb := bs.length) (b := ⟨kind, A, args, cap, vn, ve, un, ue⟩) (Int.not_lt.2 HK0.out) HK1.out HM.out P1.out HV.out h4 HU.out h5 h
        have hE7 := fun h4 h5 h => be7 (np := ps.length) (nb := bs.length) (b := ⟨kind, A, args, cap, vn, ve, un, ue⟩) (Int.not_lt.2 HK0.out) HK1.out HM.out P1.out HV.out h4 HU.out h5 h
        dsimp only at hE4 hE5 hE6 hE7
        have HE4 := Lib.hid hE4
        have HE5 := Lib.hid hE5
        have HE6 := Lib.hid hE6
        have HE7 := Lib.hid hE7
        clear hE4 hE5 hE6 hE7
        go_wp2_with fail
        go_at_call 41
        refine (scalar_any vn ve false wr).mono ?_
        rintro e w5 ⟨rfl, hb5⟩
        have N5 := Lib.hid (HB0.out.trans (hb5.mono (by omega)))
        have r5 := R1.out.call hb5
        have HT5 := Lib.hid (HTW.out.below (hb5.mono (B' := 1) (by omega)) (by omega))
        have hz5 := hb5.size
        have z5 : w.heap.size + 1 < w5.heap.size := by omega
        have q4 : w5.cell? ⟨w.heap.size + 1, 4, none⟩ = some (.int .i64 un) := r5.cell 4
        have q5 : w5.cell? ⟨w.heap.size + 1, 5, none⟩ = some (.int .i64 ue) := r5.cell 5
        have R5 := Lib.hid r5
        clear r5 hb5 q0 q2 q3 hlt hbs1
        by_cases h4 : scalE vn ve false = 0
        · rw [h4, errV_0]
          have H4 := Lib.hid h4
          clear h4
          go_wp2_with fail
          go_at_call 41
          refine (scalar_any un ue false w5).mono ?_
          rintro e w6 ⟨rfl, hb6⟩
          have N6 := Lib.hid (N5.out.trans (hb6.mono (by omega)))
          have r6 := R5.out.call hb6
          have HT6 := Lib.hid (HT5.out.below (hb6.mono (B' := 1) (by omega)) (by omega))
          have hz6 := hb6.size
          have z6 : w.heap.size + 1 < w6.heap.size := by omega
          have q2 : w6.cell? ⟨w.heap.size + 1, 2, none⟩ = some (.int .i64 vn) := r6.cell 2
          have q3 : w6.cell? ⟨w.heap.size + 1, 3, none⟩ = some (.int .i64 ve) := r6.cell 3
          have q6 : w6.cell? ⟨w.heap.size + 1, 4, none⟩ = some (.int .i64 un) := r6.cell 4
          have q7 : w6.cell? ⟨w.heap.size + 1, 5, none⟩ = some (.int .i64 ue) := r6.cell 5
          clear r6 hb6 q4 q5 z5
          by_cases h5 : scalE un ue false = 0
          · rw [h5, errV_0]
            have H5 := Lib.hid h5
            clear h5
            go_wp2_with fail
            go_quiet (fail)
            go_wp2_with fail
            go_ret
            exact ⟨er_0 (HE7.out H4.out H5.out (fun h => by cases h.1)), by repeat (first | exact N6.out | refine ext_drew ?_ | refine ext_drewN ?_ _)⟩
          · have HE := Lib.hid (HE5.out H4.out h5)
            rw [errV_n h5]
            have H5 := Lib.hid h5
            clear h5
            go_wp2_with fail
            go_ret
            exact ⟨er_n HE.out H5.out, N6.out⟩
        · have HE := Lib.hid (HE4.out h4)
          rw [errV_n h4]
          have H4 := Lib.hid h4
          clear h4
          go_wp2_with fail
          go_ret
          exact ⟨er_n HE.out H4.out, N5.out⟩
theorem check_any (d : Dg) (b : Bk) (m : Nat) (w : World) (hm : m ≤ w.heap.size) (hb : CellsAt w m b.A (ints b.args)) (hl : b.args.length ≤ 1000000) (hl1 : d.ps.length ≤ 1000000) (hl2 : d.bs.length ≤ 1000000) (ht : TabAt w) :
    Calls Tryd.prog 18 #[d.val, b.val] w fun e w' => e = .returned (errV (blkErr d.ps.length d.bs.length b)) ∧ Below w.heap.size w w' := by
  by_cases h : 0 ≤ arityM b.kind ∧ ((b.args.length : Nat) : Int) = arityM b.kind
  · obtain ⟨A1, ps, c1, A2, bs, c2, A3, os, c3⟩ := d
    obtain ⟨kind, A, args, cap, vn, ve, un, ue⟩ := b
    dsimp only at h hb hl hl1 hl2
    have hk0 : ¬ arityM kind < 0 := by omega
    by_cases h0 : kind = 0
    · subst h0; exact check_0 A1 ps c1 A2 bs c2 A3 os c3 A args cap vn ve un ue m w hk0 h.2 hl hl1 hl2 hm hb ht
    · by_cases h1 : kind = 1
      · subst h1; exact check_1 A1 ps c1 A2 bs c2 A3 os c3 A args cap vn ve un ue m w hk0 h.2 hl hl1 hl2 hm hb ht
      · by_cases h2 : kind = 2
        · subst h2; exact check_2 A1 ps c1 A2 bs c2 A3 os c3 A args cap vn ve un ue m w hk0 h.2 hl hl1 hl2 hm hb ht
        · by_cases h6 : kind = 6
          · subst h6; exact check_6 A1 ps c1 A2 bs c2 A3 os c3 A args cap vn ve un ue m w hk0 h.2 hl hl1 hl2 hm hb ht
          · by_cases h11 : kind = 11
            · subst h11; exact check_11 A1 ps c1 A2 bs c2 A3 os c3 A args cap vn ve un ue m w hk0 h.2 hl hl1 hl2 hm hb ht
            · exact check_x A1 ps c1 A2 bs c2 A3 os c3 kind A args cap vn ve un ue m w h0 h1 h2 h6 h11 hk0 h.2 hl hl1 hl2 hm hb ht
  · exact check_bad d b w h hl
theorem port_ok {p q r : Int} (h : portE ⟨p, q, r⟩ = 0) : -2147483648 ≤ p ∧ p ≤ q ∧ q < 2147483648 ∧ 0 ≤ r ∧ r ≤ 30 := by
  unfold portE at h
  by_cases h2 : -2147483648 ≤ p ∧ p ≤ q ∧ q < 2147483648 ∧ 0 ≤ r ∧ r ≤ 30
  · exact h2
  · rw [if_neg h2] at h; cases h
theorem port_bad {p q r : Int} (h : ¬ portE ⟨p, q, r⟩ = 0) : portE ⟨p, q, r⟩ = 3 := by
  unfold portE at h ⊢
  by_cases h2 : -2147483648 ≤ p ∧ p ≤ q ∧ q < 2147483648 ∧ 0 ≤ r ∧ r ≤ 30
  · exact absurd (if_pos h2) h
  · exact if_neg h2
theorem Check_any (d : Dg) (m : Nat) (w : World) (hm : m ≤ w.heap.size) (hd : DgAt w m d) (ht : TabAt w) :
    Calls Tryd.prog 7 #[d.val] w fun e w' => e = .returned (errV (dgErr d.ps d.bs d.os)) ∧ Below w.heap.size w w' := by
  have hl1 := hd.l1
  have hl2 := hd.l2
  have hl3 := hd.l3
  have HD := Lib.hid hd
  have HT := Lib.hid ht
  clear hd ht
  obtain ⟨A1, ps, c1, A2, bs, c2, A3, os, c3⟩ := d
  dsimp only at hl1 hl2 hl3
  simp only [Dg.val]
  by_cases hsz : sizeOk ps bs os
  · have HSZ := Lib.hid hsz
    clear hsz
    have l1' : (ps.length : Int) ≤ 16 := by have := HSZ.out.1; omega
    have l2' : (bs.length : Int) ≤ 64 := by have := HSZ.out.2.1; omega
    have l3' : (os.length : Int) ≤ 16 := by have := HSZ.out.2.2; omega
    have r0 := RowD.new_ w [.slice A1 ps.length c1, .slice A2 bs.length c2, .slice A3 os.length c3] 26
    have b0 := al_ w (.cells #[.slice A1 ps.length c1, .slice A2 bs.length c2, .slice A3 os.length c3] 26)
    go_enter Tryd.func7, Tryd.ntmps7
    go_wp2_with fail
    all_goals try (exfalso; omega)
    go_loopw [32] (fun i wr => cqRel w [.slice A1 ps.length c1, .slice A2 bs.length c2, .slice A3 os.length c3] (ps.map portE) i wr) (fun i _ => ps.length - (intOf i).toNat)
    case atStart => exact ⟨0, Nat.zero_le _, rfl, rfl, r0, b0⟩
    case round =>
      as_aux_lemma =>
        clear r0 b0
        obtain ⟨k, hk, rfl, hf, hbox, hb⟩ := hrel
        have HF := Lib.hid hf
        have HB := Lib.hid hbox
        have z0 := hbox.lt
        have q1 : wr.cell? ⟨w.heap.size, 1, none⟩ = some (.slice A2 bs.length c2) := hbox.cell 1
        clear hf hbox
        rw [List.length_map] at hk
        by_cases hlt : k < ps.length
        · obtain ⟨b, off, x, rfl, hbm, hbs, hx, hc⟩ := (HD.out.below hb hm).ps.row (s := 3) (fun _ => rfl) (by omega) hlt
          obtain ⟨plo, phi, pfr⟩ := x
          have g0 : wr.cell? ⟨b, off + k * 3, none⟩ = some (.int .i64 plo) := hc 0 _ rfl
          have g1 := hc 1 _ rfl
          have g2 := hc 2 _ rfl
          dsimp only at g1 g2
          have HX := Lib.hid hx
          clear hc hx
          by_cases hp : portE ⟨plo, phi, pfr⟩ = 0
          · have HPE := Lib.hid hp
            have hp2 : -2147483648 ≤ plo ∧ plo ≤ phi ∧ phi < 2147483648 ∧ 0 ≤ pfr ∧ pfr ≤ 30 := port_ok hp
            obtain ⟨p1, p2, p3, p4, p5⟩ := hp2
            clear hp
            go_wp2_with fail
            all_goals try (exfalso; omega)
            exact ⟨⟨k + 1, by rw [List.length_map]; omega, by go_num, fs1 HX.out HPE.out HF.out, HB.out.call (al_ _ _), ext_alloc hb _⟩, by simp [intOf]; omega⟩
          · have h3 : portE ⟨plo, phi, pfr⟩ = 3 := port_bad hp
            have HE := Lib.hid (de1 HSZ.out (pe1 (bs := bs) (os := os) HX.out h3 (by decide) HF.out) (by decide))
            have hp2 : ¬ (-2147483648 ≤ plo ∧ plo ≤ phi ∧ phi < 2147483648 ∧ 0 ≤ pfr ∧ pfr ≤ 30) := fun h => hp (if_pos h)
            have HP2 := Lib.hid hp2
            clear hp h3 hp2
            go_wp2_with fail
            all_goals first
              | (go_ret
                 exact ⟨er_n (k := 3) (HE.out) (by decide), ext_alloc hb _⟩)
              | (exfalso; exact HP2.out ⟨by omega, by omega, by omega, by omega, by omega⟩)
        · have P1 := Lib.hid (fe_all (k := k) (by rw [List.length_map]; omega) HF.out)
          clear HF
          go_wp2_with fail
          clear q1 hk hlt
          obtain ⟨w2, hw2⟩ : ∃ w2, w2 = wr := ⟨_, rfl⟩
          rw [← hw2] at HB hb
          rw [← hw2]
          clear hw2 z0
          go_loopw [66] (fun i wr => cqRel w [.slice A1 ps.length c1, .slice A2 bs.length c2, .slice A3 os.length c3] (bs.map (blkErr ps.length bs.length)) i wr) (fun i _ => bs.length - (intOf i).toNat)
          case atStart => exact ⟨0, Nat.zero_le _, rfl, rfl, HB.out, hb⟩
          case round =>
            as_aux_lemma =>
              clear HB hb
              obtain ⟨k, hk, rfl, hf, hbox, hb⟩ := hrel
              have HF := Lib.hid hf
              have HB := Lib.hid hbox
              have z0 := hbox.lt
              have q0 : wr.cell? ⟨w.heap.size, 0, none⟩ = some (.slice A1 ps.length c1) := hbox.cell 0
              have q1 : wr.cell? ⟨w.heap.size, 1, none⟩ = some (.slice A2 bs.length c2) := hbox.cell 1
              have q2 : wr.cell? ⟨w.heap.size, 2, none⟩ = some (.slice A3 os.length c3) := hbox.cell 2
              clear hf hbox
              rw [List.length_map] at hk
              by_cases hlt : k < bs.length
              · obtain ⟨b, off, kind, KA, args, cap, vn, ve, un, ue, hA, hbm, hbs, hx, g0, g1, g2, g3, g4, g5, ha, hal⟩ := (HD.out.below hb hm).blk hlt
                dsimp only at hA hx
                subst hA
                have HX := Lib.hid hx
                have HA := Lib.hid ha
                clear hx ha
                go_wp2_with fail
                go_at_call 18
                refine (check_any ⟨A1, ps, c1, some ⟨b, off, none⟩, bs, c2, A3, os, c3⟩ ⟨kind, KA, args, cap, vn, ve, un, ue⟩ m _ (by have := hb.size; simp; omega) (HA.out.below (al_ _ _) (by have := hb.size; omega)) hal hl1 hl2 ((HT.out.below hb HT.out.1).below (al_ _ _) (HT.out.below hb HT.out.1).1)).mono ?_
                rintro e w5 ⟨rfl, hb5⟩
                dsimp only at hb5 ⊢
                have HB5 := Lib.hid ((HB.out.call (al_ _ _)).call hb5)
                have N5 := Lib.hid ((ext_alloc hb (.cells #[.int .i64 kind, .slice KA args.length cap, .int .i64 vn, .int .i64 ve, .int .i64 un, .int .i64 ue] 39)).trans (hb5.mono (by have := hb.size; simp; omega)))
                clear hb5 g0 g1 g2 g3 g4 g5 q0 q1 q2
                obtain ⟨E, hE⟩ : ∃ E, blkErr ps.length bs.length ⟨kind, KA, args, cap, vn, ve, un, ue⟩ = E := ⟨_, rfl⟩
                have HEE := Lib.hid hE
                rw [hE]
                clear hE
                by_cases he0 : E = 0
                · have HE0 := Lib.hid (HEE.out.trans he0)
                  rw [he0, errV_0]
                  clear he0
                  go_wp2_with fail
                  exact ⟨⟨k + 1, by rw [List.length_map]; omega, by go_num, fs1 HX.out HE0.out HF.out, HB5.out, N5.out⟩, by simp [intOf]; omega⟩
                · have HE := Lib.hid (de1 HSZ.out (pe2 (os := os) P1.out HX.out HEE.out he0 HF.out) he0)
                  rw [errV_n he0]
                  have HE0 := Lib.hid he0
                  clear he0
                  go_wp2_with fail
                  go_ret
                  exact ⟨er_n HE.out HE0.out, N5.out⟩
              · have P2 := Lib.hid (fe_all (k := k) (by rw [List.length_map]; omega) HF.out)
                clear HF
                go_wp2_with fail
                clear q0 q1 q2 hk hlt
                obtain ⟨w3, hw3⟩ : ∃ w3, w3 = wr := ⟨_, rfl⟩
                rw [← hw3] at HB hb
                rw [← hw3]
                clear hw3 z0
                go_loopw [80] (fun i wr => cqRel w [.slice A1 ps.length c1, .slice A2 bs.length c2, .slice A3 os.length c3] (os.map (outE bs.length)) i wr) (fun i _ => os.length - (intOf i).toNat)
                case atStart => exact ⟨0, Nat.zero_le _, rfl, rfl, HB.out, hb⟩
                case round =>
                  as_aux_lemma =>
                    clear HB hb
                    obtain ⟨k, hk, rfl, hf, hbox, hb⟩ := hrel
                    have HF := Lib.hid hf
                    have HB := Lib.hid hbox
                    have z0 := hbox.lt
                    have q0 : wr.cell? ⟨w.heap.size, 0, none⟩ = some (.slice A1 ps.length c1) := hbox.cell 0
                    have q1 : wr.cell? ⟨w.heap.size, 1, none⟩ = some (.slice A2 bs.length c2) := hbox.cell 1
                    have q2 : wr.cell? ⟨w.heap.size, 2, none⟩ = some (.slice A3 os.length c3) := hbox.cell 2
                    clear hf hbox
                    rw [List.length_map] at hk
                    by_cases hlt : k < os.length
                    · obtain ⟨b, off, z, rfl, hbm, hbs, hx, hc⟩ := (HD.out.below hb hm).os.int_ hlt
                      have HX := Lib.hid hx
                      clear hx
                      by_cases ho : 0 ≤ z ∧ z < (bs.length : Int)
                      · have HOE := Lib.hid (show outE bs.length z = 0 from if_pos ho)
                        obtain ⟨o1, o2⟩ := ho
                        go_wp2_with fail
                        all_goals try (exfalso; omega)
                        exact ⟨⟨k + 1, by rw [List.length_map]; omega, by go_num, fs1 HX.out HOE.out HF.out, HB.out, hb⟩, by simp [intOf]; omega⟩
                      · have HE := Lib.hid (de1 HSZ.out (pe3 P1.out P2.out HX.out (if_neg ho) (by decide) HF.out) (by decide))
                        have HO := Lib.hid ho
                        clear ho
                        go_wp2_with fail
                        all_goals first
                          | (go_ret
                             exact ⟨er_n (k := 10) (HE.out) (by decide), hb⟩)
                          | (exfalso; exact HO.out ⟨by omega, by omega⟩)
                    · have P3 := Lib.hid (fe_all (k := k) (by rw [List.length_map]; omega) HF.out)
                      have HE := Lib.hid (de2 HSZ.out (pe4 P1.out P2.out P3.out))
                      have HSO := Lib.hid (succ_ok P2.out)
                      clear HF
                      go_wp2_with fail
                      obtain ⟨w4, hw4⟩ : ∃ w4, w4 = wr := ⟨_, rfl⟩
                      rw [← hw4] at z0 q0 q1 q2 hb
                      rw [← hw4]
                      have HB4 := Lib.hid hb
                      clear hw4 HB hb hlt hk
                      go_at_call 19
                      refine (order_any ⟨A1, ps, c1, A2, bs, c2, A3, os, c3⟩ m w4 (by have := HB4.out.size; omega) (HD.out.below HB4.out hm) HSO.out).mono ?_
                      rintro e w7 ⟨v7, rfl, _, hb7⟩
                      dsimp only
                      go_wp2_with fail
                      go_ret
                      exact ⟨by rw [HE.out]; rfl, HB4.out.trans (hb7.mono HB4.out.size)⟩
  · have HE := Lib.hid (de0 hsz)
    have b0 := al_ w (.cells #[.slice A1 ps.length c1, .slice A2 bs.length c2, .slice A3 os.length c3] 26)
    have key : 16 < (ps.length : Int) ∨ ((ps.length : Int) ≤ 16 ∧ 64 < (bs.length : Int)) ∨ ((ps.length : Int) ≤ 16 ∧ (bs.length : Int) ≤ 64 ∧ 16 < (os.length : Int)) := by
      unfold sizeOk at hsz
      omega
    clear hsz
    rcases key with k1 | ⟨k1, k2⟩ | ⟨k1, k2, k3⟩
    all_goals
      go_enter Tryd.func7, Tryd.ntmps7
      go_wp2_with fail
      all_goals try (exfalso; omega)
      go_ret
      exact ⟨er_n (k := 4) (HE.out) (by decide), b0⟩
def mark0 (bs : List Bk) (i : Nat) : List Bool := (List.replicate bs.length false).set i true
def usesL (bs : List Bk) (i : Nat) : List Int := natI (markL (passes bs false bs.length (mark0 bs i)))
def usesE (ps : List Prt) (bs : List Bk) (os : List Int) (i : Int) : Int := if ¬ dgErr ps bs os = 0 then dgErr ps bs os else if 0 ≤ i ∧ i < (bs.length : Int) then 0 else 10
def usesO (ps : List Prt) (bs : List Bk) (os : List Int) (i : Int) : List Int := if usesE ps bs os i = 0 then usesL bs i.toNat else []
def UsesP (ps : List Prt) (bs : List Bk) (os : List Int) (i : Int) (w : World) (e : Ending) (w' : World) : Prop :=
  ∃ v, e = .returned (.tuple #[v, errV (usesE ps bs os i)]) ∧ OwnI w' w.heap.size v (usesO ps bs os i) ∧ Below w.heap.size w w'
theorem pre_of {ps : List Prt} {bs : List Bk} {os : List Int} (h : dgErr ps bs os = 0) : sizeOk ps bs os ∧ preErr ps bs os = 0 ∧ ordErr bs = 0 := by
  unfold dgErr at h
  by_cases h1 : sizeOk ps bs os
  · rw [if_neg (not_not_intro h1)] at h
    by_cases h2 : preErr ps bs os = 0
    · rw [if_neg (not_not_intro h2)] at h
      exact ⟨h1, h2, h⟩
    · rw [if_pos h2] at h
      exact absurd h h2
  · rw [if_pos h1] at h; cases h
theorem pre_blk {ps : List Prt} {bs : List Bk} {os : List Int} (h : preErr ps bs os = 0) : firstErr (bs.map (blkErr ps.length bs.length)) = 0 := by
  unfold preErr at h
  rw [firstErr_append] at h
  by_cases h1 : firstErr (ps.map portE) = 0
  · rw [if_pos h1, firstErr_append] at h
    by_cases h2 : firstErr (bs.map (blkErr ps.length bs.length)) = 0
    · exact h2
    · rw [if_neg h2] at h; exact h
  · rw [if_neg h1] at h; exact absurd h h1
theorem dg_succ {ps : List Prt} {bs : List Bk} {os : List Int} (h : dgErr ps bs os = 0) : SuccOk bs := succ_ok (pre_blk (pre_of h).2.1)
end Go.Proofs.YtmdfjbpggbhgnaaDoor
namespace Go.Proofs.YtmdfjbpggbhgnaaDoor
open Go.RowKit
def isB (n k : Int) : Bool := decide (n ≠ 0 ∧ n = k)
def exBs (n : Nat) (k : Int) : List Bk := [⟨0, some ⟨n + 1 + 1, 0, none⟩, [0], 1, 0, 0, 0, 0⟩, ⟨3, some ⟨n + 1 + 1 + 1, 0, none⟩, [0, 2], 2, 0, 0, 0, 0⟩, ⟨k, some ⟨n + 1 + 1 + 1 + 1, 0, none⟩, [1], 1, 0, 0, 0, 0⟩]
def exDg (n : Nat) (k : Int) : Dg := ⟨some ⟨n, 0, none⟩, [⟨-8, 8, 0⟩], 1, some ⟨n + 1 + 1 + 1 + 1 + 1, 0, none⟩, exBs n k, 3, some ⟨n + 1, 0, none⟩, [1], 1⟩
structure ExAt (w : World) (n : Nat) (k : Int) : Prop where
  h1 : RowD w n (flat Prt.cells [⟨-8, 8, 0⟩]) 35
  h2 : RowD w (n + 1) (ints [1]) 3
  h3 : RowD w (n + 1 + 1) (ints [0]) 3
  h4 : RowD w (n + 1 + 1 + 1) (ints [0, 2]) 3
  h5 : RowD w (n + 1 + 1 + 1 + 1) (ints [1]) 3
  h6 : RowD w (n + 1 + 1 + 1 + 1 + 1) (flat Bk.cells (exBs n k)) 39
def ExP (w : World) (e : Ending) (w' : World) : Prop := ∃ n, w.heap.size ≤ n ∧ e = .returned (exDg n 2).val ∧ ExAt w' n 2 ∧ Below w.heap.size w w'
theorem RowD.al {w : World} {b t : Nat} {vs : List Value} (h : RowD w b vs t) (o : Obj) : RowD (w.alloc o) b vs t := h.call (al_ w o)
end Go.Proofs.YtmdfjbpggbhgnaaDoor
namespace Go.Proofs.YtmdfjbpggbhgnaaDoor
open Go.ChangeShapes Go.WideShapes Go.ChangeAt Go.RowKit Go.Joins Go.Deep
set_option maxRecDepth 100000
def i64B (z : Int) : Prop := -9223372036854775808 ≤ z ∧ z ≤ 9223372036854775807
def prtOf (zs : List Int) : Prt := ⟨zs.getD 0 0, zs.getD 1 0, zs.getD 2 0⟩
theorem prtOf_cells (zs : List Int) (h : zs.length = 3) : (prtOf zs).cells = ints zs := by
  match zs, h with
  | [_, _, _], _ => rfl
theorem fields_int {fs : Array Field} (h : fs.all (fun f => f.type == 3) = true) : ∀ (i : Nat) (f : Field), fs[i]? = some f → Tryd.prog.underlying f.type = some (.int .i64) := by
  intro i f hf
  have hi := (Array.getElem?_eq_some_iff.1 hf)
  have := Array.all_eq_true.1 h i hi.1
  rw [hi.2] at this
  have e : f.type = 3 := by simpa using this
  rw [e]
  exact Tryd.underlying3
section
variable {H : Type} {enc : TypeId × Value → H} {w : World} {spare : Nat → Bool} {held : Bool}
def bkB (x : Bk) : Prop := i64B x.kind ∧ i64B x.vn ∧ i64B x.ve ∧ i64B x.un ∧ i64B x.ue
theorem scal_cells {fuel : Nat} {cs : List Value} {x : DataW H × List MemPlace} (h : DataW.trod enc Tryd.prog w 0 spare held fuel 37 cs = some x) : ∃ n e : Int, cs = [.int .i64 n, .int .i64 e] ∧ i64B n ∧ i64B e := by
  obtain ⟨zs, rfl, hl, hz⟩ := row_ints Tryd.underlying37 (by kernel_rfl) (fields_int (by kernel_rfl)) (by kernel_rfl) h
  match zs, hl with
  | [n, e], _ => exact ⟨n, e, rfl, hz _ (by simp), hz _ (by simp)⟩
theorem row_blk {fuel : Nat} {cs : List Value} {x : DataW H × List MemPlace} (h : DataW.trod enc Tryd.prog w 0 spare held fuel 39 cs = some x) :
    ∃ b : Bk, cs = b.cells ∧ (b.A = none → b.cap = 0) ∧ b.args.length ≤ b.cap ∧ b.args.length ≤ maxLen ∧ CellsAt w w.heap.size b.A (ints b.args) ∧ (∀ z ∈ b.args, i64B z) ∧ bkB b := by
  obtain ⟨xs, n, _, _, hlen, hxl, hg⟩ := DataW.trod_struct Tryd.underlying39 h
  have hl6 : cs.length = 6 := hlen.trans (by kernel_rfl)
  match cs, hl6 with
  | [c0, c1, c2, c3, c4, c5], _ =>
    have k1 : Tryd.prog.cellsOf 3 = 1 := by kernel_rfl
    have k2 : Tryd.prog.cellsOf 24 = 1 := by kernel_rfl
    have k3 : Tryd.prog.cellsOf 37 = 2 := by kernel_rfl
    have hx4 : xs.length = 4 := hxl
    match xs, hx4 with
    | [x0, x1, x2, x3], _ =>
      have g0 : DataW.trod enc Tryd.prog w 0 spare held n 3 (([c0, c1, c2, c3, c4, c5].drop 0).take (Tryd.prog.cellsOf 3)) = some x0 := hg 0 _ rfl
      have g1 : DataW.trod enc Tryd.prog w 0 spare held n 24 (([c0, c1, c2, c3, c4, c5].drop 1).take (Tryd.prog.cellsOf 24)) = some x1 := hg 1 _ rfl
      have g2 : DataW.trod enc Tryd.prog w 0 spare held n 37 (([c0, c1, c2, c3, c4, c5].drop 2).take (Tryd.prog.cellsOf 37)) = some x2 := hg 2 _ rfl
      have g3 : DataW.trod enc Tryd.prog w 0 spare held n 37 (([c0, c1, c2, c3, c4, c5].drop 4).take (Tryd.prog.cellsOf 37)) = some x3 := hg 3 _ rfl
      rw [k1] at g0
      rw [k2] at g1
      rw [k3] at g2 g3
      obtain ⟨kind, hk, _, hkb⟩ := DataW.trod_int Tryd.underlying3 g0
      obtain ⟨A, cap, args, ha, hA0, hc1, hc2, hc3, hc4⟩ := ints_of_cell' Tryd.underlying24 Tryd.underlying3 (by kernel_rfl) g1
      obtain ⟨vn, ve, hv, b1, b2⟩ := scal_cells g2
      obtain ⟨un, ue, hu, b3, b4⟩ := scal_cells g3
      refine ⟨⟨kind, A, args, cap, vn, ve, un, ue⟩, ?_, hA0, hc1, hc2, hc3, hc4, bounds_i64 hkb, b1, b2, b3, b4⟩
      have e0 : [c0] = [Value.int .i64 kind] := hk
      have e2 : [c2, c3] = [Value.int .i64 vn, Value.int .i64 ve] := hv
      have e3 : [c4, c5] = [Value.int .i64 un, Value.int .i64 ue] := hu
      simp only [List.cons.injEq, and_true] at e0 e2 e3
      rw [e0, ha, e2.1, e2.2, e3.1, e3.2]
      rfl
structure DgIn (w : World) (d : Dg) : Prop where
  ps : CellsAt w w.heap.size d.A1 (flat Prt.cells d.ps)
  bs : CellsAt w w.heap.size d.A2 (flat Bk.cells d.bs)
  os : CellsAt w w.heap.size d.A3 (ints d.os)
  args : ∀ b ∈ d.bs, CellsAt w w.heap.size b.A (ints b.args)
  l1 : d.ps.length ≤ maxLen
  l2 : d.bs.length ≤ maxLen
  l3 : d.os.length ≤ maxLen
  l4 : ∀ b ∈ d.bs, b.args.length ≤ maxLen
  k4 : ∀ b ∈ d.bs, b.args.length ≤ b.cap
  bb : ∀ b ∈ d.bs, bkB b
  ba : ∀ b ∈ d.bs, ∀ z ∈ b.args, i64B z
  bo : ∀ z ∈ d.os, i64B z
  n1 : d.A1 = none → d.c1 = 0
  n3 : d.A3 = none → d.c3 = 0
  n4 : ∀ b ∈ d.bs, b.A = none → b.cap = 0
instance : Inhabited Bk := ⟨bk0⟩
theorem blks_of_cell {fuel : Nat} {v : Value} {x : DataW H × List MemPlace} (h : DataW.trod enc Tryd.prog w 0 spare held fuel 23 [v] = some x) :
    ∃ (A : Option Addr) (cap : Nat) (l : List Bk), v = .slice A l.length cap ∧ l.length ≤ maxLen ∧ CellsAt w w.heap.size A (flat Bk.cells l) ∧
      ∀ b ∈ l, (b.A = none → b.cap = 0) ∧ b.args.length ≤ b.cap ∧ b.args.length ≤ maxLen ∧ CellsAt w w.heap.size b.A (ints b.args) ∧ (∀ z ∈ b.args, i64B z) ∧ bkB b := by
  rcases open_slice Tryd.underlying23 h with ⟨hcs, _⟩ | ⟨a, len, cap, m, n, D, Pl, hcs, _, hl, hm, hmm, _, hx⟩
  · exact ⟨none, 0, [], by simpa using hcs, Nat.zero_le _, CellsAt.nil_, by simp⟩
  · have hle : len ≤ m := by rw [hmm]; split <;> omega
    rw [show Tryd.prog.cellsOf 39 = 6 by kernel_rfl] at hx
    obtain ⟨R, hR⟩ := choose_lt (α := Bk) (n := len) (p := fun i b => ((b.A = none → b.cap = 0) ∧ b.args.length ≤ b.cap ∧ b.args.length ≤ maxLen ∧ CellsAt w w.heap.size b.A (ints b.args) ∧ (∀ z ∈ b.args, i64B z) ∧ bkB b) ∧ ∀ j, j < 6 → w.cell? (a.add (i * 6 + j)) = b.cells[j]?) (fun i hi => by
      obtain ⟨cs', h1, h2⟩ := hx i (by omega)
      obtain ⟨b, rfl, hb⟩ := row_blk h2
      obtain ⟨_, hlen, hcell⟩ := World.cells?_some h1
      exact ⟨b, hb, fun j hj => by rw [← add_add]; exact hcell j hj⟩)
    refine ⟨some a, cap, (List.range len).map R, by simpa using hcs, by simp; omega, fun hne => ?_, ?_⟩
    · have hpos : 0 < len := by
        rcases Nat.eq_zero_or_pos len with h0 | h0
        · subst h0; simp [flat] at hne
        · exact h0
      obtain ⟨b, off, spot⟩ := a
      have h00 := (hR 0 hpos).2 0 (by decide)
      have hz0 : (R 0).cells[0]? = some (.int .i64 (R 0).kind) := rfl
      rw [hz0] at h00
      have hspot : spot = none := by simpa [Addr.add] using World.cell?_spot h00
      subst hspot
      have hb : b < w.heap.size := by
        rcases Nat.lt_or_ge b w.heap.size with h | h
        · exact h
        · simp [World.cell?, Addr.add, Array.getElem?_eq_none h] at h00
      refine ⟨b, off, rfl, hb, hb, fun j u hu => ?_⟩
      have hjl : j < len * 6 := by
        have := (List.getElem?_eq_some_iff.1 hu).1
        rw [flat_len (s := 6) (fun _ => rfl)] at this
        simpa using this
      have hk : j / 6 < len := Nat.div_lt_of_lt_mul (by rw [Nat.mul_comm]; exact hjl)
      have hr : j % 6 < 6 := Nat.mod_lt _ (by decide)
      have hj : j / 6 * 6 + j % 6 = j := by rw [Nat.mul_comm]; exact Nat.div_add_mod j 6
      have hg : ((List.range len).map R)[j / 6]? = some (R (j / 6)) := by simp [hk]
      have h1 := flat_get (f := Bk.cells) (s := 6) (fun _ => rfl) hg hr
      rw [hj, hu] at h1
      have h2 := (hR _ hk).2 (j % 6) hr
      rw [hj, ← h1] at h2
      rw [← Go.WideShapes.add_plain]
      exact h2
    · intro y hy
      obtain ⟨i, hi, rfl⟩ := List.mem_map.1 hy
      exact (hR i (by simpa using hi)).1
end
end Go.Proofs.YtmdfjbpggbhgnaaDoor
namespace Go.Proofs.YtmdfjbpggbhgnaaDoor
open Go.RowKit
def RetOE (xs : List Int) (er : Int) (w : World) (e : Ending) (w' : World) : Prop := ∃ v, e = .returned (.tuple #[v, errV er]) ∧ OwnI w' w.heap.size v xs ∧ Below w.heap.size w w'
def ordO (d : Dg) : List Int := if dgErr d.ps d.bs d.os = 0 then natI (ordM d.bs) else []
def delO (d : Dg) : List Int := if dgErr d.ps d.bs d.os = 0 then natI (delL d.bs) else []
def dgE (d : Dg) : Int := dgErr d.ps d.bs d.os
theorem Order_any (d : Dg) (m : Nat) (w : World) (hm : m ≤ w.heap.size) (hd : DgAt w m d) (ht : TabAt w) :
    Calls Tryd.prog 20 #[d.val] w (RetOE (ordO d) (dgE d) w) := by
  have hl2 := hd.l2
  have HD := Lib.hid hd
  have HT := Lib.hid ht
  clear hd ht
  obtain ⟨A1, ps, c1, A2, bs, c2, A3, os, c3⟩ := d
  dsimp only at hl2
  simp only [Dg.val]
  have b0 := al_ w (.cells #[.slice A1 ps.length c1, .slice A2 bs.length c2, .slice A3 os.length c3] 26)
  have r0 := RowD.new_ w [.slice A1 ps.length c1, .slice A2 bs.length c2, .slice A3 os.length c3] 26
  have HB0 := Lib.hid b0
  have R0 := Lib.hid r0
  clear b0 r0
  obtain ⟨E, hE⟩ : ∃ E, dgErr ps bs os = E := ⟨_, rfl⟩
  have HE := Lib.hid hE
  clear hE
  go_enter Tryd.func20, Tryd.ntmps20
  go_wp2_with fail
  go_at_call 7
  refine (Check_any ⟨A1, ps, c1, A2, bs, c2, A3, os, c3⟩ m _ (by simp; omega) (HD.out.below HB0.out hm) (HT.out.below HB0.out HT.out.1)).mono ?_
  rintro e w1 ⟨rfl, hb1⟩
  dsimp only
  rw [HE.out]
  have R1 := Lib.hid (R0.out.call hb1)
  have N1 := Lib.hid (HB0.out.trans (hb1.mono HB0.out.size))
  have z1 : w.heap.size < w1.heap.size := R1.out.lt
  have q0 : w1.cell? ⟨w.heap.size, 0, none⟩ = some (.slice A1 ps.length c1) := R1.out.cell 0
  have q1 : w1.cell? ⟨w.heap.size, 1, none⟩ = some (.slice A2 bs.length c2) := R1.out.cell 1
  have q2 : w1.cell? ⟨w.heap.size, 2, none⟩ = some (.slice A3 os.length c3) := R1.out.cell 2
  clear hb1
  by_cases he : E = 0
  · have HE0 := Lib.hid (HE.out.trans he)
    rw [he, errV_0]
    clear he
    have HO := Lib.hid (show ordO ⟨A1, ps, c1, A2, bs, c2, A3, os, c3⟩ = natI (ordM bs) from if_pos HE0.out)
    go_wp2_with fail
    go_at_call 19
    refine (order_any ⟨A1, ps, c1, A2, bs, c2, A3, os, c3⟩ m w1 (by omega) (HD.out.below N1.out hm) (dg_succ HE0.out)).mono ?_
    rintro e w2 ⟨v, rfl, hown, hb2⟩
    have h0 := (pre_of HE0.out).2.2
    have hx : ordL bs = natI (ordM bs) := by unfold ordL; rw [if_pos h0]
    dsimp only at hown
    rw [hx] at hown
    dsimp only
    rw [h0, errV_0]
    have HW := Lib.hid hown
    have N2 := Lib.hid (N1.out.trans (hb2.mono N1.out.size))
    clear hown hb2 hx h0 q0 q1 q2
    go_wp2_with fail
    refine bodyPost_ret (v := .tuple #[v, .nilIface]) (by simp [results, Tryd.results20, go_sem]) rfl ⟨v, by show _ = Ending.returned (.tuple #[v, errV (dgErr ps bs os)]); rw [HE0.out, errV_0], ?_, N2.out⟩
    rw [HO.out]
    exact HW.out.base_ (by omega)
  · have HO := Lib.hid (show ordO ⟨A1, ps, c1, A2, bs, c2, A3, os, c3⟩ = [] from if_neg (by rw [HE.out]; exact he))
    have HEN := Lib.hid (errV_n he)
    clear he
    rw [HEN.out]
    go_wp2_with fail
    refine bodyPost_ret (v := .tuple #[.slice none 0 0, .iface 68 (.int .i64 E)]) (by simp [results, Tryd.results20, go_sem]) rfl ⟨_, by show _ = Ending.returned (.tuple #[_, errV (dgErr ps bs os)]); rw [HE.out, HEN.out], by rw [HO.out]; exact OwnI.nil_ _ _, N1.out⟩
def pdRel (w : World) (vs : List Value) (bs : List Bk) (v i : Value) (wr : World) : Prop := ∃ k : Nat, k ≤ bs.length ∧ i = .int .i64 k ∧ OwnI wr (w.heap.size + 1) v (natI (fl (isDel bs) k)) ∧ RowD wr w.heap.size vs 26 ∧ Below w.heap.size w wr
theorem Delays_any (d : Dg) (m : Nat) (w : World) (hm : m ≤ w.heap.size) (hd : DgAt w m d) (ht : TabAt w) :
    Calls Tryd.prog 22 #[d.val] w (RetOE (delO d) (dgE d) w) := by
  have hl2 := hd.l2
  have HD := Lib.hid hd
  have HT := Lib.hid ht
  clear hd ht
  obtain ⟨A1, ps, c1, A2, bs, c2, A3, os, c3⟩ := d
  dsimp only at hl2
  simp only [Dg.val]
  have b0 := al_ w (.cells #[.slice A1 ps.length c1, .slice A2 bs.length c2, .slice A3 os.length c3] 26)
  have r0 := RowD.new_ w [.slice A1 ps.length c1, .slice A2 bs.length c2, .slice A3 os.length c3] 26
  have HB0 := Lib.hid b0
  have R0 := Lib.hid r0
  clear b0 r0
  obtain ⟨E, hE⟩ : ∃ E, dgErr ps bs os = E := ⟨_, rfl⟩
  have HE := Lib.hid hE
  clear hE
  go_enter Tryd.func22, Tryd.ntmps22
  go_wp2_with fail
  go_at_call 7
  refine (Check_any ⟨A1, ps, c1, A2, bs, c2, A3, os, c3⟩ m _ (by simp; omega) (HD.out.below HB0.out hm) (HT.out.below HB0.out HT.out.1)).mono ?_
  rintro e w1 ⟨rfl, hb1⟩
  dsimp only
  rw [HE.out]
  have R1 := Lib.hid (R0.out.call hb1)
  have N1 := Lib.hid (HB0.out.trans (hb1.mono HB0.out.size))
  have z1 : w.heap.size < w1.heap.size := R1.out.lt
  have q1 : w1.cell? ⟨w.heap.size, 1, none⟩ = some (.slice A2 bs.length c2) := R1.out.cell 1
  clear hb1
  by_cases he : E = 0
  · have HE0 := Lib.hid (HE.out.trans he)
    rw [he, errV_0]
    clear he
    have HO := Lib.hid (show delO ⟨A1, ps, c1, A2, bs, c2, A3, os, c3⟩ = natI (delL bs) from if_pos HE0.out)
    go_wp2_with fail
    clear q1 z1
    go_loopw [5, 16] (fun v i wr => pdRel w [.slice A1 ps.length c1, .slice A2 bs.length c2, .slice A3 os.length c3] bs v i wr) (fun _ i _ => bs.length - (intOf i).toNat)
    case atStart => exact ⟨0, Nat.zero_le _, rfl, OwnI.nil_ _ _, R1.out, N1.out⟩
    case round =>
      clear R1 N1
      obtain ⟨k, hk, rfl, hown, hbox, hb⟩ := hrel
      have HO2 := Lib.hid hown
      have HB2 := Lib.hid hbox
      have hbl := hbox.lt
      clear hown hbox
      by_cases hlt : k < bs.length
      · obtain ⟨b, off, kind, A, args, cap, vn, ve, un, ue, hA, hbm, hbs, hx, g0, g1, g2, g3, g4, g5, ha, hl⟩ := (HD.out.below hb hm).blk hlt
        dsimp only at hA hx
        subst hA
        clear ha hl
        have HX := Lib.hid (kind_of hx)
        dsimp only at HX
        clear hx
        have hbz := hb.size
        by_cases k2 : kind = 2
        · subst k2
          have HP : isDel bs k = true := by unfold isDel; rw [HX.out]; rfl
          have HP := Lib.hid HP
          go_wp2_with (at_builtin; refine push_int rfl _ _ rfl (w.heap.size + 1) _ (natI (fl (isDel bs) k)) (k : Int) (wr.heap.size + 1) rfl ((HO2.out.alloc _).alloc _) rfl (by simp [go_sem]) (by have := fl_le (isDel bs) k; simp [natI]; omega) (by simp; omega) ?_; intro v' w4 hown hg hb4)
          have hst : Below w.heap.size wr w4 := (((Below.refl _ wr).alloc hbz _).alloc (by simp; omega) _).trans (hb4.mono (by omega))
          have hr4 := ((HB2.out.al _).al _).below hb4 (by omega)
          exact ⟨⟨k + 1, by omega, by go_num, by rw [fl_hit HP.out]; simpa [natI] using hown, hr4, hb.trans hst⟩, by simp [intOf]; omega⟩
        · have HP : isDel bs k = false := by unfold isDel; rw [HX.out]; simpa using k2
          have HP := Lib.hid HP
          have n2 : (kind == 2) = false := by simpa using k2
          clear k2
          go_wp2_with fail
          exact ⟨⟨k + 1, by omega, by go_num, by rw [fl_no HP.out]; exact HO2.out.alloc _, HB2.out.al _, ext_alloc hb _⟩, by simp [intOf]; omega⟩
      · go_wp2_with fail
        have e : k = bs.length := by omega
        subst e
        obtain ⟨A', c', hv, _⟩ := HO2.out.view
        subst hv
        refine bodyPost_ret (v := .tuple #[.slice A' (natI (fl (isDel bs) bs.length)).length c', .nilIface]) (by simp [results, Tryd.results22, go_sem]) rfl ⟨_, by show _ = Ending.returned (.tuple #[_, errV (dgErr ps bs os)]); rw [HE0.out, errV_0], ?_, hb⟩
        rw [HO.out]
        exact HO2.out.base_ (by omega)
  · have HO := Lib.hid (show delO ⟨A1, ps, c1, A2, bs, c2, A3, os, c3⟩ = [] from if_neg (by rw [HE.out]; exact he))
    have HEN := Lib.hid (errV_n he)
    clear he
    rw [HEN.out]
    go_wp2_with fail
    refine bodyPost_ret (v := .tuple #[.slice none 0 0, .iface 68 (.int .i64 E)]) (by simp [results, Tryd.results22, go_sem]) rfl ⟨_, by show _ = Ending.returned (.tuple #[_, errV (dgErr ps bs os)]); rw [HE.out, HEN.out], by rw [HO.out]; exact OwnI.nil_ _ _, N1.out⟩
/- Light. -/
def lightG (d : Dg) : Bool := decide (d.ps.length ≤ 40 ∧ d.bs.length ≤ 80 ∧ d.os.length ≤ 40) && d.bs.all fun b => decide (b.args.length ≤ 10)
def lgRel (w : World) (bs : List Bk) (vs : List Value) (i : Value) (wr : World) : Prop := ∃ k : Nat, k ≤ bs.length ∧ i = .int .i64 k ∧ (bs.take k).all (fun b => decide (b.args.length ≤ 10)) = true ∧ RowD wr w.heap.size vs 26 ∧ Below w.heap.size w wr
theorem all_take {α : Type} {p : α → Bool} {l : List α} {k : Nat} {x : α} (hx : l[k]? = some x) (h : (l.take k).all p = true) (hp : p x = true) : (l.take (k + 1)).all p = true := by
  rw [List.take_add_one, hx, List.all_append, h]
  simp [hp]
end Go.Proofs.YtmdfjbpggbhgnaaDoor
namespace Go.Proofs.YtmdfjbpggbhgnaaDoor
open Go.RowKit
theorem vals_rel {w : World} {S : Sets} {vs xs : List Value} (h : LRel (DRel w S) (vs.map .val) xs) : xs = vs := by
  induction vs generalizing xs with
  | nil => exact h.unnil
  | cons v vs ih =>
    obtain ⟨x, xs', rfl, h1, h2⟩ := (show LRel (DRel w S) (D.val v :: vs.map .val) xs from h).uncons
    cases h1
    rw [ih h2]
theorem rel_vals {w : World} {S : Sets} {vs : List Value} (h : ∀ v ∈ vs, v.oneCell' = true) : LRel (DRel w S) (vs.map .val) vs :=
  ⟨by simp, fun j d v hd hv => by
    simp only [List.getElem?_map, hv, Option.map_some, Option.some.injEq] at hd
    subst hd
    exact .val (h v (List.mem_of_getElem? hv))⟩
theorem row_open {w : World} {S : Sets} (hlt : ∀ t b, S t b → b < w.heap.size) {t : Bool} {s n : Nat} {cs : List D} {v : Value} (h : DRel w S (.row t s n cs) v) :
    ∃ A c xs, v = .slice A n c ∧ (A = none → c = 0) ∧ n ≤ c ∧ cs.length = n * s ∧ LRel (DRel w S) cs xs ∧ CellsAt w w.heap.size A xs := by
  cases h with
  | @row _ _ _ c _ A xs hc hA hl hx hm hr =>
    refine ⟨A, c, xs, rfl, hA, hc, hl, ⟨hx, hr⟩, fun hne => ?_⟩
    obtain ⟨b, off, h1, h2, h3⟩ := hm (fun h0 => hne (by rw [h0] at hx; exact List.eq_nil_of_length_eq_zero (by simpa using hx.symm)))
    exact ⟨b, off, h1, hlt _ _ h2, hlt _ _ h2, h3⟩
theorem row_vals {w : World} {S : Sets} (hlt : ∀ t b, S t b → b < w.heap.size) {t : Bool} {s n : Nat} {vs : List Value} {v : Value} (h : DRel w S (.row t s n (vs.map .val)) v) :
    ∃ A c, v = .slice A n c ∧ (A = none → c = 0) ∧ n ≤ c ∧ vs.length = n * s ∧ CellsAt w w.heap.size A vs := by
  obtain ⟨A, c, xs, h1, h2, h3, h4, h5, h6⟩ := row_open hlt h
  rw [vals_rel h5] at h6
  exact ⟨A, c, h1, h2, h3, by simpa using h4, h6⟩
theorem dI_map (xs : List Int) : xs.map dI = (ints xs).map .val := by simp [ints, dI]
theorem rowI_open {w : World} {S : Sets} (hlt : ∀ t b, S t b → b < w.heap.size) {t : Bool} {xs : List Int} {v : Value} (h : DRel w S (rowI t xs) v) : ∃ A c, v = .slice A xs.length c ∧ (A = none → c = 0) ∧ xs.length ≤ c ∧ CellsAt w w.heap.size A (ints xs) := by
  unfold rowI at h
  rw [dI_map] at h
  obtain ⟨A, c, h1, h2, h3, _, h4⟩ := row_vals hlt h
  exact ⟨A, c, h1, h2, h3, h4⟩
theorem own_fresh {w w' : World} {e s n : Nat} {v : Value} {xs : List Value} (h : w'.ownsRow w.heap.size e s v n xs) (h1 : ∀ u ∈ xs, u.oneCell' = true) : DRel w' (Fresh w w') (.row false s n (xs.map .val)) v := by
  have hl := h.1
  rcases h.2 with ⟨rfl, rfl⟩ | ⟨g, cap, cur, rfl, hb, hg, hnc, hcm, hcs, htk⟩
  · have : xs = [] := List.eq_nil_of_length_eq_zero (by simpa using hl)
    subst this
    exact .row [] (Nat.le_refl _) (fun _ => rfl) (by simp) rfl (fun h => absurd rfl h) (fun j u x h => by simp at h)
  · have hlt := (Array.getElem?_eq_some_iff.1 hg).1
    refine .row xs hnc (by simp) (by simpa using hl) (by simp) (fun _ => ⟨g, 0, rfl, ⟨rfl, hb, hlt⟩, fun j x hj => ?_⟩) (rel_vals h1).2
    rw [Nat.zero_add, own_cell h (List.getElem?_eq_some_iff.1 hj).1]
    exact hj
theorem own_freshI {w w' : World} {v : Value} {xs : List Int} (h : OwnI w' w.heap.size v xs) : DRel w' (Fresh w w') (rowI false xs) v := by
  unfold rowI
  rw [dI_map]
  exact own_fresh h (fun u hu => by obtain ⟨z, _, rfl⟩ := List.mem_map.1 hu; rfl)
def dPrt (p : Prt) : List D := [dI p.lo, dI p.hi, dI p.fr]
def dBk (t : Bool) (b : Bk) : List D := [dI b.kind, rowI t b.args, dI b.vn, dI b.ve, dI b.un, dI b.ue]
def dIns (x : Ins) : List D := [dI x.op, dI x.dst, dI x.a, dI x.b, dI x.sa, dI x.sb, dI x.imm]
def rowP (t : Bool) (ps : List Prt) : D := .row t 3 ps.length (flatD dPrt ps)
def rowB (t : Bool) (bs : List Bk) : D := .row t 6 bs.length (flatD (dBk t) bs)
def rowN (t : Bool) (xs : List Ins) : D := .row t 7 xs.length (flatD dIns xs)
def dDg (t : Bool) (ps : List Prt) (bs : List Bk) (os : List Int) : List D := [rowP t ps, rowB t bs, rowI t os]
def aDg (t : Bool) (ps : List Prt) (bs : List Bk) (os : List Int) : A := .agg (dDg t ps bs os)
def aE (n : Int) : A := .one (.val (errV n))
theorem errV_one (n : Int) : (errV n).oneCell' = true := by unfold errV; split <;> rfl
theorem flatD_vals {α : Type} {f : α → List D} {g : α → List Value} (h : ∀ x, f x = (g x).map .val) (l : List α) : flatD f l = (flat g l).map .val := by
  induction l with
  | nil => rfl
  | cons x l ih =>
    simp only [flatD, flat, List.map_cons, List.flatten_cons, List.map_append] at ih ⊢
    rw [ih, h]
theorem dPrt_vals (p : Prt) : dPrt p = (Prt.cells p).map .val := rfl
theorem dIns_vals (p : Ins) : dIns p = (Ins.cells p).map .val := rfl
def Bk.z (b : Bk) : Bk := { b with A := none, cap := 0 }
section
variable (bs : List Bk)
theorem bk_z (i : Nat) : ((bs.map Bk.z)[i]?.getD bk0) = (bs[i]?.getD bk0).z := by
  rw [List.getElem?_map]
  cases bs[i]? <;> rfl
theorem kindAt_z : kindAt (bs.map Bk.z) = kindAt bs := funext fun i => by unfold kindAt; rw [bk_z]; rfl
theorem argsAt_z : argsAt (bs.map Bk.z) = argsAt bs := funext fun i => by unfold argsAt; rw [bk_z]; rfl
theorem preds_z : preds (bs.map Bk.z) = preds bs := funext fun i => by unfold preds; rw [kindAt_z, argsAt_z]
theorem doneB_z : doneB (bs.map Bk.z) = doneB bs := funext fun o => funext fun j => by unfold doneB; rw [kindAt_z]
theorem rdy_z : rdy (bs.map Bk.z) = rdy bs := funext fun o => funext fun j => by unfold rdy; rw [doneB_z, preds_z]
theorem nxt_z : nxt (bs.map Bk.z) = nxt bs := funext fun o => by unfold nxt; rw [rdy_z, List.length_map]
theorem ordN_z : ∀ f o, ordN (bs.map Bk.z) f o = ordN bs f o
  | 0, o => rfl
  | f + 1, o => by
    unfold ordN
    rw [nxt_z]
    cases nxt bs o with
    | none => rfl
    | some i => exact ordN_z f _
theorem ordM_z : ordM (bs.map Bk.z) = ordM bs := by unfold ordM; rw [ordN_z, List.length_map]
theorem nonDel_z : nonDel (bs.map Bk.z) = nonDel bs := by unfold nonDel; rw [kindAt_z, List.length_map]
theorem delL_z : delL (bs.map Bk.z) = delL bs := by unfold delL; rw [kindAt_z, List.length_map]
theorem ordErr_z : ordErr (bs.map Bk.z) = ordErr bs := by unfold ordErr; rw [ordM_z, nonDel_z]
theorem dgErr_z (ps : List Prt) (os : List Int) : dgErr ps (bs.map Bk.z) os = dgErr ps bs os := by
  have h1 : sizeOk ps (bs.map Bk.z) os = sizeOk ps bs os := by unfold sizeOk; rw [List.length_map]
  have h2 : preErr ps (bs.map Bk.z) os = preErr ps bs os := by
    unfold preErr
    rw [List.length_map, List.map_map]
    rfl
  unfold dgErr
  simp only [h1, h2, ordErr_z]
end
theorem bk_open {w : World} {S : Sets} {t : Bool} (hlt : ∀ t b, S t b → b < w.heap.size) : ∀ {bs : List Bk} {xs : List Value}, LRel (DRel w S) (flatD (dBk t) bs) xs → ∃ bs', xs = flat Bk.cells bs' ∧ bs'.map Bk.z = bs.map Bk.z ∧ ∀ b ∈ bs', CellsAt w w.heap.size b.A (ints b.args)
  | [], xs, h => by
    have := (show LRel (DRel w S) [] xs from h).unnil
    exact ⟨[], this, rfl, by simp⟩
  | b :: bs, xs, h => by
    have h' : LRel (DRel w S) (dI b.kind :: rowI t b.args :: dI b.vn :: dI b.ve :: dI b.un :: dI b.ue :: flatD (dBk t) bs) xs := h
    obtain ⟨v0, x1, rfl, q0, h⟩ := h'.uncons
    obtain ⟨v1, x2, rfl, q1, h⟩ := h.uncons
    obtain ⟨v2, x3, rfl, q2, h⟩ := h.uncons
    obtain ⟨v3, x4, rfl, q3, h⟩ := h.uncons
    obtain ⟨v4, x5, rfl, q4, h⟩ := h.uncons
    obtain ⟨v5, x6, rfl, q5, h⟩ := h.uncons
    obtain ⟨bs', rfl, h2, h3⟩ := bk_open hlt h
    obtain ⟨A, c, rfl, _, _, hc⟩ := rowI_open hlt q1
    cases q0; cases q2; cases q3; cases q4; cases q5
    refine ⟨⟨b.kind, A, b.args, c, b.vn, b.ve, b.un, b.ue⟩ :: bs', rfl, ?_, fun x hx => ?_⟩
    · simp only [List.map_cons, h2]
      rfl
    · rcases List.mem_cons.1 hx with rfl | hx
      · exact hc
      · exact h3 x hx
structure DgLen (ps : List Prt) (bs : List Bk) (os : List Int) : Prop where
  l1 : ps.length ≤ 1000000
  l2 : bs.length ≤ 1000000
  l3 : os.length ≤ 1000000
  la : ∀ b ∈ bs, b.args.length ≤ 1000000
theorem dg_open {w : World} {S : Sets} (hlt : ∀ t b, S t b → b < w.heap.size) {t : Bool} {ps : List Prt} {bs : List Bk} {os : List Int} {v : Value} (h : ARel w S (aDg t ps bs os) v) (hl : DgLen ps bs os) :
    ∃ d : Dg, v = d.val ∧ DgAt w w.heap.size d ∧ d.ps = ps ∧ d.bs.map Bk.z = bs.map Bk.z ∧ d.os = os ∧ (d.A1 = none → d.c1 = 0) ∧ (d.A3 = none → d.c3 = 0) := by
  obtain ⟨xs, rfl, hl0⟩ := h
  obtain ⟨v0, x1, rfl, q0, h⟩ := LRel.uncons hl0
  obtain ⟨v1, x2, rfl, q1, h⟩ := h.uncons
  obtain ⟨v2, x3, rfl, q2, h⟩ := h.uncons
  have := h.unnil
  subst this
  unfold rowP at q0
  rw [flatD_vals dPrt_vals] at q0
  obtain ⟨A1, c1, rfl, n1, _, _, k1⟩ := row_vals hlt q0
  obtain ⟨A2, c2, ys, rfl, _, _, hlen, hr, k2⟩ := row_open hlt q1
  obtain ⟨bs', rfl, h2, h3⟩ := bk_open hlt hr
  obtain ⟨A3, c3, rfl, n3, _, k3⟩ := rowI_open hlt q2
  have hbl : bs'.length = bs.length := by have := congrArg List.length h2; simpa using this
  refine ⟨⟨A1, ps, c1, A2, bs', c2, A3, os, c3⟩, ?_, ⟨k1, k2, k3, fun b hb => ⟨h3 b hb, ?_⟩, hl.l1, by show bs'.length ≤ _; rw [hbl]; exact hl.l2, hl.l3⟩, rfl, h2, rfl, n1, n3⟩
  · simp [Dg.val, hbl]
  · have hz : b.z ∈ bs.map Bk.z := by rw [← h2]; exact List.mem_map_of_mem hb
    obtain ⟨b0, hb0, he⟩ := List.mem_map.1 hz
    have : b.args = b0.args := (congrArg Bk.args he).symm
    rw [this]
    exact hl.la b0 hb0
theorem tab_G (w w' : World) (h : Below w.heap.size w w') (ht : TabAt w) : TabAt w' := ht.call h
theorem two_rel {w : World} {S : Sets} {x y : A} {a b : Value} (h1 : ARel w S x a) (h2 : ARel w S y b) : RRel w S [x, y] (.tuple #[a, b]) := ⟨[a, b], rfl, .cons_ h1 (.cons_ h2 .nil_)⟩
theorem one_arg {w : World} {S : Sets} {x : A} {vs : List Value} (h : LRel (ARel w S) [x] vs) : ∃ v, vs = [v] ∧ ARel w S x v := by
  obtain ⟨v, vs', rfl, h1, h2⟩ := h.uncons
  rw [h2.unnil]
  exact ⟨v, rfl, h1⟩
theorem order_cv (t : Bool) {ps : List Prt} {bs : List Bk} {os : List Int} (hl : DgLen ps bs os) : CVF Tryd.prog TabAt 20 [aDg t ps bs os] [.one (rowI false (if dgErr ps bs os = 0 then natI (ordM bs) else [])), aE (dgErr ps bs os)] := fun w S vs hg hlt ha => by
  obtain ⟨v, rfl, hv⟩ := one_arg ha
  obtain ⟨d, rfl, hd, rfl, hz, rfl, _, _⟩ := dg_open hlt hv hl
  refine (Order_any d _ w (Nat.le_refl _) hd hg).mono fun e w' ⟨so, he, hown, hb⟩ => ?_
  have e1 : dgErr d.ps d.bs d.os = dgErr d.ps bs d.os := by rw [← dgErr_z, hz, dgErr_z]
  have e2 : ordM d.bs = ordM bs := by rw [← ordM_z, hz, ordM_z]
  unfold ordO at hown
  rw [e1, e2] at hown
  unfold dgE at he
  rw [e1] at he
  exact ⟨_, he, two_rel (own_freshI hown) (DRel.val (errV_one _)), hb⟩
theorem delays_cv (t : Bool) {ps : List Prt} {bs : List Bk} {os : List Int} (hl : DgLen ps bs os) : CVF Tryd.prog TabAt 22 [aDg t ps bs os] [.one (rowI false (if dgErr ps bs os = 0 then natI (delL bs) else [])), aE (dgErr ps bs os)] := fun w S vs hg hlt ha => by
  obtain ⟨v, rfl, hv⟩ := one_arg ha
  obtain ⟨d, rfl, hd, rfl, hz, rfl, _, _⟩ := dg_open hlt hv hl
  refine (Delays_any d _ w (Nat.le_refl _) hd hg).mono fun e w' ⟨so, he, hown, hb⟩ => ?_
  have e1 : dgErr d.ps d.bs d.os = dgErr d.ps bs d.os := by rw [← dgErr_z, hz, dgErr_z]
  have e2 : delL d.bs = delL bs := by rw [← delL_z, hz, delL_z]
  unfold delO at hown
  rw [e1, e2] at hown
  unfold dgE at he
  rw [e1] at he
  exact ⟨_, he, two_rel (own_freshI hown) (DRel.val (errV_one _)), hb⟩
theorem bk_at {t : Bool} {bs : List Bk} {k : Nat} {y : Bk} (h : bs[k]? = some y) : ((flatD (dBk t) bs).drop (k * 6)).take 6 = dBk t y := flatD_at (f := dBk t) (s := 6) (fun _ => rfl) h
theorem prt_at {ps : List Prt} {k : Nat} {y : Prt} (h : ps[k]? = some y) : ((flatD dPrt ps).drop (k * 3)).take 3 = dPrt y := flatD_at (f := dPrt) (s := 3) (fun _ => rfl) h
theorem ins_at {xs : List Ins} {k : Nat} {y : Ins} (h : xs[k]? = some y) : ((flatD dIns xs).drop (k * 7)).take 7 = dIns y := flatD_at (f := dIns) (s := 7) (fun _ => rfl) h
theorem int_at {xs : List Int} {k : Nat} {z : Int} (h : xs[k]? = some z) : ((xs.map dI).drop (k * 1)).take 1 = [dI z] := map_at h
inductive DTag (t : Bool) : D → Prop
  | val (v : Value) : DTag t (.val v)
  | row {s n : Nat} {cs : List D} (h : ∀ d ∈ cs, DTag t d) : DTag t (.row t s n cs)
  | ptr {cs : List D} (h : ∀ d ∈ cs, DTag t d) : DTag t (.ptr t cs)
theorem DTag.rel {w : World} {S : Sets} {t : Bool} {d : D} (h : DTag t d) : ∀ v, DRel w S d v → DRel w (fun u b => u = t ∧ S t b) d v := by
  induction h with
  | val v => intro u hu; cases hu with | val h => exact .val h
  | @row s n cs _ ih =>
    intro v hv
    cases hv with
    | row xs hc hA hln hx hm hr =>
      refine .row xs hc hA hln hx (fun hne => ?_) fun j u x hu hj => ih u (List.mem_of_getElem? hu) x (hr j u x hu hj)
      obtain ⟨b, off, h1, h2, h3⟩ := hm hne
      exact ⟨b, off, h1, ⟨rfl, h2⟩, h3⟩
  | @ptr cs _ ih =>
    intro v hv
    cases hv with
    | ptr xs hx hb hm hr => exact .ptr xs hx ⟨rfl, hb⟩ hm fun j u x hu hj => ih u (List.mem_of_getElem? hu) x (hr j u x hu hj)
def ATag (t : Bool) : A → Prop
  | .one d => DTag t d
  | .agg ds => ∀ d ∈ ds, DTag t d
theorem CV.fresh {P : Program} {G : World → Prop} {f : FuncId} {args res : List A} (h : CV P G f args res) (ht : ∀ a ∈ args, ATag true a) : CVF P G f args res := fun w S vs hg hlt ha => by
  have ha' : LRel (ARel w fun u b => u = true ∧ S true b) args vs := ⟨ha.1, fun j y v hy hv => by
    have h1 := ha.2 j y v hy hv
    have h2 := ht y (List.mem_of_getElem? hy)
    cases y with
    | one d => exact DTag.rel h2 v h1
    | agg ds =>
      obtain ⟨xs, rfl, h3⟩ := h1
      exact ⟨xs, rfl, h3.1, fun i d x hd hx => DTag.rel (h2 d (List.mem_of_getElem? hd)) x (h3.2 i d x hd hx)⟩⟩
  refine (h w (fun u b => u = true ∧ S true b) vs hg (fun t b hb => hlt true b hb.2) ha').mono fun e w' ⟨v, h1, h2, h3⟩ => ⟨v, h1, h2.mono (fun t b hb => ?_) (fun _ _ _ => rfl), h3⟩
  obtain ⟨rfl, hb | hb⟩ := hb
  · cases hb.1
  · exact ⟨rfl, hb⟩
theorem tag_I (t : Bool) (xs : List Int) : DTag t (rowI t xs) := .row fun d hd => by obtain ⟨z, _, rfl⟩ := List.mem_map.1 hd; exact .val _
theorem tag_flat {α : Type} {f : α → List D} {t : Bool} (hf : ∀ x, ∀ d ∈ f x, DTag t d) (l : List α) : ∀ d ∈ flatD f l, DTag t d := fun d hd => by
  obtain ⟨ds, h1, h2⟩ := List.mem_flatten.1 hd
  obtain ⟨x, _, rfl⟩ := List.mem_map.1 h1
  exact hf x d h2
theorem tag_P (t : Bool) (ps : List Prt) : DTag t (rowP t ps) := .row (tag_flat (fun x d hd => by simp only [dPrt, List.mem_cons, List.not_mem_nil, or_false] at hd; rcases hd with rfl | rfl | rfl <;> exact .val _) ps)
theorem tag_B (t : Bool) (bs : List Bk) : DTag t (rowB t bs) := .row (tag_flat (fun x d hd => by
  simp only [dBk, List.mem_cons, List.not_mem_nil, or_false] at hd
  rcases hd with rfl | rfl | rfl | rfl | rfl | rfl
  · exact .val _
  · exact tag_I t _
  all_goals exact .val _) bs)
theorem tag_Dg (t : Bool) (ps : List Prt) (bs : List Bk) (os : List Int) : ATag t (aDg t ps bs os) := fun d hd => by
  simp only [dDg, List.mem_cons, List.not_mem_nil, or_false] at hd
  rcases hd with rfl | rfl | rfl
  · exact tag_P t ps
  · exact tag_B t bs
  · exact tag_I t os
theorem free_I (xs : List Int) : DFree (rowI false xs) := .row fun d hd => by obtain ⟨z, _, rfl⟩ := List.mem_map.1 hd; exact .val _
theorem flatD_free {α : Type} {f : α → List D} (hf : ∀ x, ∀ d ∈ f x, DFree d) (l : List α) : ∀ d ∈ flatD f l, DFree d := fun d hd => by
  obtain ⟨ds, h1, h2⟩ := List.mem_flatten.1 hd
  obtain ⟨x, _, rfl⟩ := List.mem_map.1 h1
  exact hf x d h2
theorem prt_free (x : Prt) : ∀ d ∈ dPrt x, DFree d := fun d hd => by simp only [dPrt, List.mem_cons, List.not_mem_nil, or_false] at hd; rcases hd with rfl | rfl | rfl <;> exact .val _
theorem ins_free (x : Ins) : ∀ d ∈ dIns x, DFree d := fun d hd => by simp only [dIns, List.mem_cons, List.not_mem_nil, or_false] at hd; rcases hd with rfl | rfl | rfl | rfl | rfl | rfl | rfl <;> exact .val _
section
variable {P : Program} {G : World → Prop} {o : Oper} {F : Frm} {H : List Ob}
theorem ok_neqE {t t' : TypeId} {x : Operand} {E : Int} {b : Bool} (ho : o.op = .binOp .neq t x (.const .nilIface) t') (ht : TyI P t) (hx : F.ev x = .one (.d (.val (errV E)))) (hb : (E != 0) = b) : OpOk P G o F H (.one (.d (.val (.bool b)))) [] := by
  by_cases h : E = 0
  · refine ok_nilN ho ht hx (.inr (.inl ⟨rfl, ?_, ?_⟩))
    · rw [h, errV_0]
    · rw [← hb, bne_f h]
  · refine ok_nilN ho ht hx (.inr (.inr (.inr ⟨rfl, ⟨_, _, errV_n h⟩, ?_⟩)))
    rw [← hb, bne_t h]
theorem ok_eqlE {t t' : TypeId} {x : Operand} {E : Int} {b : Bool} (ho : o.op = .binOp .eql t x (.const .nilIface) t') (ht : TyI P t) (hx : F.ev x = .one (.d (.val (errV E)))) (hb : (E == 0) = b) : OpOk P G o F H (.one (.d (.val (.bool b)))) [] := by
  by_cases h : E = 0
  · refine ok_nilN ho ht hx (.inl ⟨rfl, ?_, ?_⟩)
    · rw [h, errV_0]
    · rw [← hb, beq_t h]
  · refine ok_nilN ho ht hx (.inr (.inr (.inl ⟨rfl, ⟨_, _, errV_n h⟩, ?_⟩)))
    rw [← hb, beq_f h]
theorem rv_e {t : Tmp} {E E' : Int} (hF : F t = .one (.d (.val (errV E)))) (hz : E = E') : RV P F H (.tmp t) (aE E') := .tmp (by rw [hF, hz]; exact .one (.d fun _ => .val _))
theorem rv_e0 {t : Tmp} {E' : Int} (hF : F t = .one (.d (.val .nilIface))) (hz : E' = 0) : RV P F H (.tmp t) (aE E') := .tmp (by rw [hF, hz]; exact .one (.d fun _ => .val _))
theorem rv_en {t : Tmp} {n E' : Int} (hF : F t = .one (.d (.val (.iface 68 (.int .i64 n))))) (h0 : n ≠ 0) (hz : E' = n) : RV P F H (.tmp t) (aE E') := .tmp (by rw [hF, hz, ← errV_n h0]; exact .one (.d fun _ => .val _))
theorem rv_box {t : Tmp} {ty ty' id k : Nat} {cs : List C} {ds : List D} {y : A} (hF : F t = .one (.ref id 0 none)) (hH : H[id]? = some (.box ty' cs)) (hk : TyK P ty true k) (hi : cs.length = k) (hy : y = .agg ds) (h : LRel (CExp false H) cs ds) : RV P F H (.cell t ty) y := by
  obtain ⟨d, h1, h2⟩ := hk.h
  rw [hy]
  exact .cellA hF hH h1 h2 (by rw [hk.s, hi]) h
end
theorem cvz {f : FuncId} {fn : Func} {c : Code} {N : Nat} {args res : List A} (hf : Tryd.prog.funcs[f]? = some fn) (hN : fn.ntmps = N) (k : CW Tryd.prog TabAt N c (F0 args) [] (RetQ Tryd.prog fn res)) (hb : fn.body = some c := by exact rfl) (ha : args.length ≤ N := by exact Nat.le_of_ble_eq_true rfl) : CV Tryd.prog TabAt f args res := cv_of tab_G hf hb hN ha k
section
variable {P : Program} {G : World → Prop} {o : Oper} {F : Frm} {H : List Ob}
theorem xNE {t t' : TypeId} {x : Operand} {E : Int} {b : Bool} (ht : TyI P t) (ho : o.op = .binOp .neq t x (.const .nilIface) t' := by with_unfolding_all exact rfl) (hx : F.ev x = .one (.d (.val (errV E))) := by with_unfolding_all exact rfl) (hb : (E != 0) = b := by first | exact bne_f rfl | exact bne_f (by omega) | exact bne_t (by first | assumption | omega) | exact rfl) : OpOk P G o F H (.one (.d (.val (.bool b)))) [] := ok_neqE ho ht hx hb
theorem xNt {t : TypeId} {x : Operand} {b : Bool} (ho : o.op = .unOp .not t x := by with_unfolding_all exact rfl) (hx : F.ev x = .one (.d (.val (.bool b))) := by with_unfolding_all exact rfl) : OpOk P G o F H (.one (.d (.val (.bool (!b))))) [] := ok_not ho hx
theorem xNg {t : TypeId} {x : Operand} {p : Int} (ho : o.op = .unOp .neg t x := by with_unfolding_all exact rfl) (hx : F.ev x = .one (.d (.val (.int .i64 p))) := by with_unfolding_all exact rfl) (hb : -9223372036854775807 ≤ p ∧ p ≤ 9223372036854775807 := by omega) : OpOk P G o F H (.one (.d (.val (.int .i64 (-p))))) [] := ok_neg64 ho hx hb
theorem xM1 {x : Operand} {c : C} (ho : o.op = .move x := by with_unfolding_all exact rfl) (hx : F.ev x = .one c := by with_unfolding_all exact rfl) : OpOk P G o F H (.one c) [] := ok_mv1 ho hx
theorem xMt {x : Operand} {l : List A} (ho : o.op = .move x := by with_unfolding_all exact rfl) (hx : F.ev x = .tup l := by with_unfolding_all exact rfl) : OpOk P G o F H (.tup l) [] := ok_mvT ho hx
theorem xAl {t : TypeId} {z : Value} {k by_ : Nat} (hz : TyZ P t z k by_) (ho : o.op = .alloc t := by with_unfolding_all exact rfl) : OpOk P G o F H (.one (.ref H.length 0 none)) [.box t (valsC z.cells.toList)] := ok_alloc ho hz
end
def NoWd (vs : List Value) : Prop := ∀ u ∈ vs, ∀ z, u ≠ .int .u32 z
theorem RowD.notwd {w : World} {g t m : Nat} {vs : List Value} {A : Option Addr} {ws : List Nat} (h : RowD w g vs t) (hn : NoWd vs) (hc : CellsAt w m A (w32 ws)) (j : Nat) (u : Value) : CellsAt (w.setCell ⟨g, j, none⟩ u) m A (w32 ws) := fun hx => by
  obtain ⟨b, off, hA, hbm, hbs, hcc⟩ := hc hx
  have hne : b ≠ g := fun he => by
    have hp : 0 < ws.length := by
      have := w32_len ws
      rcases Nat.eq_zero_or_pos ws.length with h0 | h0
      · exact absurd (List.eq_nil_of_length_eq_zero (this.trans h0)) hx
      · exact h0
    have h1 := hcc 0 (.int .u32 (ws[0] : Int)) (by simp [w32, hp])
    rw [he, h.cell] at h1
    exact hn _ (List.mem_of_getElem? h1) _ rfl
  refine ⟨b, off, hA, hbm, by simpa using hbs, fun i v hv => ?_⟩
  rw [World.cell?_setCell_other _ _ _ _ (fun e => hne (by cases e; rfl))]
  exact hcc i v hv
theorem DyR.setH {w : World} {lo hi d g t : Nat} {v : Value} {x : Int} {vs : List Value} (h : DyR w lo hi v x d) (hg : RowD w g vs t) (hn : NoWd vs) (j : Nat) (u : Value) : DyR (w.setCell ⟨g, j, none⟩ u) lo hi v x d := by
  obtain ⟨A, c, e, h1, h2, h3, h4, h5, h6⟩ := h
  exact ⟨A, c, e, h1, h2, hg.notwd hn h3 j u, h4, h5, h6⟩
theorem NoWd.set {vs : List Value} (h : NoWd vs) (j : Nat) {u : Value} (hu : ∀ z, u ≠ .int .u32 z) : NoWd (vs.set j u) := fun v hv z => by
  rcases List.mem_or_eq_of_mem_set hv with h1 | rfl
  · exact h v h1 z
  · exact hu z
theorem noWd3 {b1 : Bool} {A1 : Option Addr} {L1 c1 : Nat} {d1 : Int} : NoWd [.bool b1, .slice A1 L1 c1, .int .i64 d1] := by
  intro u hu z
  simp only [List.mem_cons, List.not_mem_nil, or_false] at hu
  rcases hu with rfl | rfl | rfl <;> simp
theorem DyR.set3H {w : World} {lo hi d g t : Nat} {v : Value} {x : Int} {v0 v1 v2 a0 a1 a2 : Value} (h : DyR w lo hi v x d) (hg : RowD w g [v0, v1, v2] t) (hn : NoWd [v0, v1, v2]) (ha : NoWd [a0, a1, a2]) :
    DyR (((w.setCell ⟨g, 0, none⟩ a0).setCell ⟨g, 1, none⟩ a1).setCell ⟨g, 2, none⟩ a2) lo hi v x d := by
  have k0 := hn.set 0 (ha a0 (by simp))
  have k1 := k0.set 1 (ha a1 (by simp))
  exact ((h.setH hg hn 0 a0).setH (hg.set_ 0 a0) k0 1 a1).setH ((hg.set_ 0 a0).set_ 1 a1) k1 2 a2
theorem size3d (w : World) (g : Nat) (a0 a1 a2 : Value) : (((w.setCell ⟨g, 0, none⟩ a0).setCell ⟨g, 1, none⟩ a1).setCell ⟨g, 2, none⟩ a2).heap.size = w.heap.size := by simp
theorem below_set3d {W w : World} {m g : Nat} (h : Below m W w) (hg : m ≤ g) (a0 a1 a2 : Value) : Below m W (((w.setCell ⟨g, 0, none⟩ a0).setCell ⟨g, 1, none⟩ a1).setCell ⟨g, 2, none⟩ a2) :=
  ((h.setCell hg a0).setCell hg a1).setCell hg a2
def shE (x k : Int) : Int := if k < 0 then x / 2 ^ (-k).toNat else x * 2 ^ k.toNat
theorem nf_floor (x : Int) (p : Nat) : (nf x p).1 / 2 ^ (nf x p).2 = x / 2 ^ p := by
  induction p generalizing x with
  | zero => rfl
  | succ p ih =>
    unfold nf
    split
    · rename_i h
      rw [ih]
      have e : x = 2 * (x / 2) := by omega
      rw [Int.pow_succ, Int.mul_comm (2 ^ p) 2, ← Int.ediv_ediv_of_nonneg (by omega)]
    · rfl
theorem dyFloor_zero (x : Int) (d : Nat) : dyFloor x d 0 = (x / 2 ^ d, 0) := by
  unfold dyFloor
  by_cases h : d ≤ 0
  · have : d = 0 := by omega
    subst this
    simp
  · rw [if_neg h]
    rfl
theorem sh_val {x k : Int} (h1 : -65536 ≤ k) (h2 : k ≤ 65536) : dyFloor (dyShift x 0 k).1 (dyShift x 0 k).2 0 = (shE x k, 0) := by
  rw [dyFloor_zero]
  congr 1
  unfold dyShift shE
  rw [show max (-65536) (min k 65536) = k by omega]
  by_cases h : k < 0
  · rw [if_pos h, if_pos h, Nat.zero_add]
    exact nf_floor _ _
  · rw [if_neg h, if_neg h]
    show x * 2 ^ k.toNat / 2 ^ 0 = _
    simp
def rawOk (n e f : Int) : Prop := -2147483648 < n ∧ n < 2147483648 ∧ -62 ≤ e ∧ e ≤ 30 ∧ 0 ≤ f ∧ f ≤ 30
instance (n e f : Int) : Decidable (rawOk n e f) := by unfold rawOk; infer_instance
def rawErr (n e f : Int) : Int := if rawOk n e f then (if -2147483648 ≤ shE n (e + f) ∧ shE n (e + f) < 2147483648 then 0 else 13) else 3
def rawV (n e f : Int) : Int := if rawErr n e f = 0 then shE n (e + f) else 0
theorem raw_no {n e f : Int} (h : ¬ rawOk n e f) : rawErr n e f = 3 ∧ rawV n e f = 0 := by
  have h1 : rawErr n e f = 3 := if_neg h
  exact ⟨h1, by unfold rawV; rw [h1]; rfl⟩
theorem raw_far {n e f : Int} (h : rawOk n e f) (h2 : ¬ (-2147483648 ≤ shE n (e + f) ∧ shE n (e + f) < 2147483648)) : rawErr n e f = 13 ∧ rawV n e f = 0 := by
  have h1 : rawErr n e f = 13 := by unfold rawErr; rw [if_pos h, if_neg h2]
  exact ⟨h1, by unfold rawV; rw [h1]; rfl⟩
theorem raw_yes {n e f : Int} (h : rawOk n e f) (h2 : -2147483648 ≤ shE n (e + f) ∧ shE n (e + f) < 2147483648) : rawErr n e f = 0 ∧ rawV n e f = shE n (e + f) := by
  have h1 : rawErr n e f = 0 := by unfold rawErr; rw [if_pos h, if_pos h2]
  exact ⟨h1, by unfold rawV; rw [h1]; rfl⟩
theorem abs_mul_le {x : Int} {k : Nat} (hx : x.natAbs ≤ 2147483648) (hk : k ≤ 100) : (x * 2 ^ k).natAbs ≤ 2147483648 * 2 ^ 100 := by
  rw [Int.natAbs_mul, Int.natAbs_pow]
  exact Nat.mul_le_mul hx (Nat.pow_le_pow_right (by decide) hk)
theorem abs_div_le {x : Int} (k : Nat) : (x / 2 ^ k).natAbs ≤ x.natAbs := by
  have hp : (0 : Int) < 2 ^ k := Int.pow_pos (by decide)
  have h1 := Int.mul_ediv_add_emod x (2 ^ k)
  have h2 := Int.emod_nonneg x (Int.ne_of_gt hp)
  have h3 := Int.emod_lt_of_pos x hp
  have hle : (0 : Int) ≤ x → 0 ≤ x / 2 ^ k := fun h => Int.ediv_nonneg h (Int.le_of_lt hp)
  by_cases h : 0 ≤ x
  · have h4 := hle h
    have h5 := Int.ediv_le_self (2 ^ k) h
    omega
  · have h4 : x ≤ x / 2 ^ k := by
      rw [Int.le_ediv_iff_mul_le hp]
      have h6 : (1 : Int) ≤ 2 ^ k := hp
      have h7 := Int.mul_nonneg (a := -x) (b := 2 ^ k - 1) (by omega) (by omega)
      rw [Int.neg_mul, Int.mul_sub, Int.mul_one] at h7
      omega
    have h5 : x / 2 ^ k < 0 := Int.ediv_neg_of_neg_of_pos (by omega) hp
    omega
theorem sh_len {x k : Int} (hx : x.natAbs ≤ 2147483648) (h1 : -100 ≤ k) (h2 : k ≤ 100) : (canon (dyShift x 0 k).1.natAbs).length ≤ 5 := by
  refine canon_len_le (Nat.lt_of_le_of_lt (m := 2147483648 * 2 ^ 100) ?_ (by decide))
  unfold dyShift
  rw [show max (-65536) (min k 65536) = k by omega]
  by_cases h : k < 0
  · rw [if_pos h]
    exact Nat.le_trans (nf_abs_le _ _) (Nat.le_trans hx (by decide))
  · rw [if_neg h]
    exact Nat.le_trans (nf_abs_le _ _) (abs_mul_le hx (by omega))
theorem shE_len {x k : Int} (hx : x.natAbs ≤ 2147483648) (h2 : k ≤ 100) : (canon (shE x k).natAbs).length ≤ 5 := by
  refine canon_len_le (Nat.lt_of_le_of_lt (m := 2147483648 * 2 ^ 100) ?_ (by decide))
  unfold shE
  by_cases h : k < 0
  · rw [if_pos h]
    exact Nat.le_trans (abs_div_le _) (Nat.le_trans hx (by decide))
  · rw [if_neg h]
    exact abs_mul_le hx (by omega)
end Go.Proofs.YtmdfjbpggbhgnaaDoor
namespace Go.Proofs.YtmdfjbpggbhgnaaDoor
open Go.RowKit
theorem rawOk_parts {n e f : Int} (h : rawOk n e f) : ¬ n ≤ -2147483648 ∧ ¬ 2147483648 ≤ n ∧ ¬ e < -62 ∧ ¬ 30 < e ∧ ¬ f < 0 ∧ ¬ 30 < f := by
  unfold rawOk at h
  omega
theorem rawOk_not {n e f : Int} (h : ¬ rawOk n e f) : n ≤ -2147483648 ∨ (¬ n ≤ -2147483648 ∧ 2147483648 ≤ n) ∨ (¬ n ≤ -2147483648 ∧ ¬ 2147483648 ≤ n ∧ e < -62) ∨ (¬ n ≤ -2147483648 ∧ ¬ 2147483648 ≤ n ∧ ¬ e < -62 ∧ 30 < e) ∨
    (¬ n ≤ -2147483648 ∧ ¬ 2147483648 ≤ n ∧ ¬ e < -62 ∧ ¬ 30 < e ∧ f < 0) ∨ (¬ n ≤ -2147483648 ∧ ¬ 2147483648 ≤ n ∧ ¬ e < -62 ∧ ¬ 30 < e ∧ ¬ f < 0 ∧ 30 < f) := by
  unfold rawOk at h
  omega
theorem praw_no (n e f : Int) (w : World) (h : ¬ rawOk n e f) :
    Calls Tryd.prog 17 #[.agg #[.int .i64 n, .int .i64 e], .int .i64 f] w fun r w' => r = .returned (.tuple #[.int .i64 (rawV n e f), errV (rawErr n e f)]) ∧ Below w.heap.size w w' := by
  have HV := Lib.hid (raw_no h)
  have b0 := al_ w (.cells #[.int .i64 n, .int .i64 e] 37)
  have r0 := RowD.new_ w [.int .i64 n, .int .i64 e] 37
  have h' := rawOk_not h
  clear h
  rcases h' with g0 | ⟨g0, g1⟩ | ⟨g0, g1, g2⟩ | ⟨g0, g1, g2, g3⟩ | ⟨g0, g1, g2, g3, g4⟩ | ⟨g0, g1, g2, g3, g4, g5⟩
  · have d0 : decide (n ≤ -2147483648) = true := decide_eq_true g0
    clear g0
    go_enter Tryd.func17, Tryd.ntmps17
    go_wp2_with fail
    exact bodyPost_ret (v := .tuple #[.int .i64 0, .iface 68 (.int .i64 3)]) (by simp [results, Tryd.results17, go_sem]) rfl ⟨by rw [HV.out.1, HV.out.2]; rfl, b0⟩
  · have d0 : decide (n ≤ -2147483648) = false := decide_eq_false g0
    have d1 : decide (2147483648 ≤ n) = true := decide_eq_true g1
    clear g0 g1
    go_enter Tryd.func17, Tryd.ntmps17
    go_wp2_with fail
    exact bodyPost_ret (v := .tuple #[.int .i64 0, .iface 68 (.int .i64 3)]) (by simp [results, Tryd.results17, go_sem]) rfl ⟨by rw [HV.out.1, HV.out.2]; rfl, b0⟩
  · have d0 : decide (n ≤ -2147483648) = false := decide_eq_false g0
    have d1 : decide (2147483648 ≤ n) = false := decide_eq_false g1
    have d2 : decide (e < -62) = true := decide_eq_true g2
    clear g0 g1 g2
    go_enter Tryd.func17, Tryd.ntmps17
    go_wp2_with fail
    exact bodyPost_ret (v := .tuple #[.int .i64 0, .iface 68 (.int .i64 3)]) (by simp [results, Tryd.results17, go_sem]) rfl ⟨by rw [HV.out.1, HV.out.2]; rfl, b0⟩
  · have d0 : decide (n ≤ -2147483648) = false := decide_eq_false g0
    have d1 : decide (2147483648 ≤ n) = false := decide_eq_false g1
    have d2 : decide (e < -62) = false := decide_eq_false g2
    have d3 : decide (30 < e) = true := decide_eq_true g3
    clear g0 g1 g2 g3
    go_enter Tryd.func17, Tryd.ntmps17
    go_wp2_with fail
    exact bodyPost_ret (v := .tuple #[.int .i64 0, .iface 68 (.int .i64 3)]) (by simp [results, Tryd.results17, go_sem]) rfl ⟨by rw [HV.out.1, HV.out.2]; rfl, b0⟩
  · have d0 : decide (n ≤ -2147483648) = false := decide_eq_false g0
    have d1 : decide (2147483648 ≤ n) = false := decide_eq_false g1
    have d2 : decide (e < -62) = false := decide_eq_false g2
    have d3 : decide (30 < e) = false := decide_eq_false g3
    have d4 : decide (f < 0) = true := decide_eq_true g4
    clear g0 g1 g2 g3 g4
    go_enter Tryd.func17, Tryd.ntmps17
    go_wp2_with fail
    exact bodyPost_ret (v := .tuple #[.int .i64 0, .iface 68 (.int .i64 3)]) (by simp [results, Tryd.results17, go_sem]) rfl ⟨by rw [HV.out.1, HV.out.2]; rfl, b0⟩
  · have d0 : decide (n ≤ -2147483648) = false := decide_eq_false g0
    have d1 : decide (2147483648 ≤ n) = false := decide_eq_false g1
    have d2 : decide (e < -62) = false := decide_eq_false g2
    have d3 : decide (30 < e) = false := decide_eq_false g3
    have d4 : decide (f < 0) = false := decide_eq_false g4
    have d5 : decide (30 < f) = true := decide_eq_true g5
    clear g0 g1 g2 g3 g4 g5
    go_enter Tryd.func17, Tryd.ntmps17
    go_wp2_with fail
    exact bodyPost_ret (v := .tuple #[.int .i64 0, .iface 68 (.int .i64 3)]) (by simp [results, Tryd.results17, go_sem]) rfl ⟨by rw [HV.out.1, HV.out.2]; rfl, b0⟩
theorem praw_ok (n e f : Int) (w : World) (h : rawOk n e f) (ht : TabAt w) :
    Calls Tryd.prog 17 #[.agg #[.int .i64 n, .int .i64 e], .int .i64 f] w fun r w' => r = .returned (.tuple #[.int .i64 (rawV n e f), errV (rawErr n e f)]) ∧ Below w.heap.size w w' := by
  have hp := rawOk_parts h
  have hn : n.natAbs ≤ 2147483648 := by have := hp.1; have := hp.2.1; omega
  have hk : -62 ≤ e + f ∧ e + f ≤ 60 := by obtain ⟨_, _, _, _, _, _⟩ := hp; omega
  have HOK := Lib.hid h
  have HT := Lib.hid ht
  obtain ⟨g0, g1, g2, g3, g4, g5⟩ := hp
  have d0 : decide (n ≤ -2147483648) = false := decide_eq_false g0
  have d1 : decide (2147483648 ≤ n) = false := decide_eq_false g1
  have d2 : decide (e < -62) = false := decide_eq_false g2
  have d3 : decide (30 < e) = false := decide_eq_false g3
  have d4 : decide (f < 0) = false := decide_eq_false g4
  have d5 : decide (30 < f) = false := decide_eq_false g5
  have hi1 : -9223372036854775808 ≤ n := by omega
  have hi2 : n < 9223372036854775808 := by omega
  have l5 : (canon n.natAbs).length ≤ 50000 := Nat.le_trans (canon_len_le (k := 1) (by omega)) (by decide)
  have l6 : (canon (dyShift n 0 (e + f)).1.natAbs).length ≤ 50000 := Nat.le_trans (sh_len hn (by omega) (by omega)) (by decide)
  have l7 : (canon (shE n (e + f)).natAbs).length ≤ 50000 := Nat.le_trans (shE_len hn (by omega)) (by decide)
  have hsv := Lib.hid (sh_val (x := n) (k := e + f) (by omega) (by omega))
  obtain ⟨k, hkk⟩ : ∃ k, k = e + f := ⟨_, rfl⟩
  have hw1 : IntKind.i64.wrap (e + f) = k := by rw [hkk]; exact IntWalk.i64_in _ (by omega)
  rw [← hkk] at l6 l7 hsv hk
  have HKK := Lib.hid hkk
  obtain ⟨x, hx⟩ : ∃ x, x = shE n k := ⟨_, rfl⟩
  rw [← hx] at l7 hsv
  have HX := Lib.hid hx
  clear h ht g0 g1 g2 g3 g4 g5 hkk hx
  go_enter Tryd.func17, Tryd.ntmps17
  go_wp2_with fail
  obtain ⟨W, hW⟩ : ∃ q, q = w.alloc (.cells #[.int .i64 n, .int .i64 e] 37) := ⟨_, rfl⟩
  have rX : RowD W w.heap.size [.int .i64 n, .int .i64 e] 37 := by rw [hW]; exact RowD.new_ _ _ _
  have bW : Below w.heap.size w W := by rw [hW]; exact al_ _ _
  rw [← hW]
  clear hW
  have hA := rX.lt
  have a0 : W.cell? ⟨w.heap.size, 0, none⟩ = some (.int .i64 n) := rX.cell 0
  have a1 : W.cell? ⟨w.heap.size, 1, none⟩ = some (.int .i64 e) := rX.cell 1
  have HTW := Lib.hid (HT.out.below bW HT.out.1)
  have hWs := bW.size
  refine wp_region_E1 13 13 11 (by kernel_rfl) (by kernel_rfl) (by kernel_rfl) (by decide) ?_
  dsimp only [List.take, List.drop]
  obtain ⟨u0, hu0⟩ : ∃ q, q = W.drew := ⟨_, rfl⟩
  have hS : Below W.heap.size W u0 := by rw [hu0]; exact (Below.refl _ _).drew
  rw [← hu0]
  clear hu0
  refine takeE 0 ?v0 rfl (by kernel_rfl) (by intro _ _ _ h; exact h) (by rfl) ?h0 ?r0
  case h0 =>
    intro w2 hx
    go_simp
    try rfl
  case' r0 => try simp only [Act.put, List.setIfInBounds_toArray, List.set_cons_zero, List.set_cons_succ]
  refine takeE 1 ?v1 rfl (by kernel_rfl) (by intro _ _ _ h; exact h) (by rfl) ?h1 ?r1
  case h1 =>
    intro w2 hx
    have e0 : w2.cell? ⟨w.heap.size, 0, none⟩ = some (.int .i64 n) := ((hS.trans (hx.more0.mono hS.size)).cell (p := ⟨w.heap.size, 0, none⟩) hA).trans a0
    go_simp
    try rfl
  case' r1 => try simp only [Act.put, List.setIfInBounds_toArray, List.set_cons_zero, List.set_cons_succ]
  refine takeE 3 ?v3 rfl (by kernel_rfl) (by intro _ _ _ h; exact h) (by rfl) ?h3 ?r3
  case h3 =>
    intro w2 hx
    go_simp
    try rfl
  case' r3 => try simp only [Act.put, List.setIfInBounds_toArray, List.set_cons_zero, List.set_cons_succ]
  refine takeE 4 ?v4 rfl (by kernel_rfl) (by intro _ _ _ h; exact h) (by rfl) ?h4 ?r4
  case h4 =>
    intro w2 hx
    have e1 : w2.cell? ⟨w.heap.size, 1, none⟩ = some (.int .i64 e) := ((hS.trans (hx.more0.mono hS.size)).cell (p := ⟨w.heap.size, 1, none⟩) hA).trans a1
    go_simp
    try rfl
  case' r4 => try simp only [Act.put, List.setIfInBounds_toArray, List.set_cons_zero, List.set_cons_succ]
  refine takeE 5 ?v5 rfl (by kernel_rfl) (by intro _ _ _ h; exact h) (by rfl) ?h5 ?r5
  case h5 =>
    intro w2 hx
    go_simp
    try rfl
  case' r5 => try simp only [Act.put, List.setIfInBounds_toArray, List.set_cons_zero, List.set_cons_succ]
  refine takeE 6 ?v6 rfl (by kernel_rfl) (by intro _ _ _ h; exact h) (by rfl) ?h6 ?r6
  case h6 =>
    intro w2 hx
    have hw2 := hw1
    go_simp
    try rfl
  case' r6 => try simp only [Act.put, List.setIfInBounds_toArray, List.set_cons_zero, List.set_cons_succ]
  refine makeE 12 (fun g => .pointer (some ⟨g, 0, none⟩)) (.cells #[.bool false, .slice none 0 0, .int .i64 0] 59) W.heap.size rfl (by kernel_rfl) (by intro _ _ _ _ h; exact h) (by rfl) (by intro w2; go_simp; try rfl) hS.size (by intro b h; exact h.elim) ?_
  refine stepE 2 rfl (by kernel_rfl) (by rfl) ?_
  intro x1 hx K hK
  have hS1 := hS.trans (hx.mono hS.size)
  clear hS
  go_simp
  refine (pof_any n hi1 hi2 x1 (HTW.out.below hS1 HTW.out.1)).mono ?_
  rintro e u1 ⟨v5, rfl, D5, hb⟩
  have hS := hS1.trans (hb.mono hS1.size)
  obtain ⟨nb5, A5, L5, c5, rfl, _⟩ := D5.form
  refine hK.out _ _ (MoreW.growU hb) ?_
  clear hK K hx hS1 hb
  try simp only [Act.put, List.setIfInBounds_toArray, List.set_cons_zero, List.set_cons_succ]
  refine stepE 7 rfl (by kernel_rfl) (by rfl) ?_
  intro x2 hx K hK
  have hS1 := hS.trans (hx.mono hS.size)
  clear hS
  replace D5 := (D5.below hx (Nat.le_refl _)).more hx.size
  go_simp
  refine (pshift_any (n := k) D5 (Nat.le_refl _) l5 (by omega) (HTW.out.below hS1 HTW.out.1)).mono ?_
  rintro e u2 ⟨v6, rfl, D6, hb⟩
  have hS := hS1.trans (hb.mono hS1.size)
  replace D5 := (D5.below hb (Nat.le_refl _)).more hb.size
  obtain ⟨nb6, A6, L6, c6, rfl, _⟩ := D6.form
  clear D5
  refine hK.out _ _ (MoreW.growU hb) ?_
  clear hK K hx hS1 hb
  try simp only [Act.put, List.setIfInBounds_toArray, List.set_cons_zero, List.set_cons_succ]
  refine stepE 8 rfl (by kernel_rfl) (by rfl) ?_
  intro x3 hx K hK
  have hS1 := hS.trans (hx.mono hS.size)
  clear hS
  replace D6 := (D6.below hx (Nat.le_refl _)).more hx.size
  go_simp
  refine (pfloor_any (den := 0) D6 (Nat.le_refl _) l6 (by omega) (HTW.out.below hS1 HTW.out.1)).mono ?_
  rintro e u3 ⟨v7, rfl, D7, hb⟩
  have hS := hS1.trans (hb.mono hS1.size)
  replace D6 := (D6.below hb (Nat.le_refl _)).more hb.size
  rw [hsv.out] at D7
  obtain ⟨nb7, A7, L7, c7, rfl, _⟩ := D7.form
  clear D6
  refine hK.out _ _ (MoreW.growU hb) ?_
  clear hK K hx hS1 hb
  try simp only [Act.put, List.setIfInBounds_toArray, List.set_cons_zero, List.set_cons_succ]
  refine takeE 9 ?v9 rfl (by kernel_rfl) (by intro _ _ _ h; exact h) (by rfl) ?h9 ?r9
  case h9 =>
    intro w2 hx
    go_simp
    try rfl
  case' r9 => try simp only [Act.put, List.setIfInBounds_toArray, List.set_cons_zero, List.set_cons_succ]
  refine takeE 10 ?v10 rfl (by kernel_rfl) (by intro _ _ _ h; exact h) (by rfl) ?h10 ?r10
  case h10 =>
    intro w2 hx
    go_simp
    try rfl
  case' r10 => try simp only [Act.put, List.setIfInBounds_toArray, List.set_cons_zero, List.set_cons_succ]
  refine takeE 11 ?v11 rfl (by kernel_rfl) (by intro _ _ _ h; exact h) (by rfl) ?h11 ?r11
  case h11 =>
    intro w2 hx
    go_simp
    try rfl
  case' r11 => try simp only [Act.put, List.setIfInBounds_toArray, List.set_cons_zero, List.set_cons_succ]
  refine endE (by kernel_rfl) ?_
  intro u4 hx g hg hU hgo
  dsimp only [PartQ]
  have rg : RowD u4 g [.bool false, .slice none 0 0, .int .i64 0] 59 := hgo
  have hS4 := hS.trans (hx.mono hS.size)
  replace D7 := (D7.below hx (Nat.le_refl _)).more hx.size
  clear hx hS hU hgo
  have RG := Lib.hid rg
  have HD7 := Lib.hid D7
  have HS4 := Lib.hid hS4
  have c0 : u4.cell? ⟨g, 0, none⟩ = some (.bool false) := rg.cell 0
  have c1 : u4.cell? ⟨g, 1, none⟩ = some (.slice none 0 0) := rg.cell 1
  have c2 : u4.cell? ⟨g, 2, none⟩ = some (.int .i64 0) := rg.cell 2
  have cf := rg.free
  have cg := rg.lt
  clear rg D7 hS4 a0 a1
  go_wp2_with fail
  refine NoPanic.normal ?_
  go_wp2_with fail
  go_at_call 39
  obtain ⟨y, hy⟩ : ∃ q, q = (((u4.setCell ⟨g, 0, none⟩ (.bool nb7)).setCell ⟨g, 1, none⟩ (.slice A7 L7 c7)).setCell ⟨g, 2, none⟩ (.int .i64 0)) := ⟨_, rfl⟩
  have Dy : DyR y x3.heap.size y.heap.size (.agg #[.bool nb7, .slice A7 L7 c7, .int .i64 ((0 : Nat) : Int)]) x 0 := by rw [hy, size3d]; exact HD7.out.set3H RG.out noWd3 noWd3
  have hSy : Below W.heap.size W y := by rw [hy]; exact below_set3d HS4.out hg _ _ _
  try rw [← hy]
  clear hy
  refine (pint_any (m := y.heap.size) Dy rfl (Nat.le_refl _) l7).mono ?_
  rintro e8 u8 ⟨rfl, hb8⟩
  have HF := Lib.hid (bW.trans ((hSy.trans (hb8.mono hSy.size)).mono hWs))
  clear hb8 hSy Dy HS4 RG HD7 cf cg c0 c1 c2 hg
  by_cases h32 : -2147483648 ≤ x ∧ x < 2147483648
  · have HV := Lib.hid (raw_yes HOK.out (by rw [← HKK.out, ← HX.out]; exact h32))
    have h64 := i64_yes (x := x) (by omega)
    rw [h64.1, h64.2]
    have f1 : decide (x < -2147483648) = false := decide_eq_false (by omega)
    have f2 : decide (2147483648 ≤ x) = false := decide_eq_false (by omega)
    clear h64
    clear h32
    go_wp2_with fail
    exact bodyPost_ret (v := .tuple #[.int .i64 x, .nilIface]) (by simp [results, Tryd.results17, go_sem]) rfl ⟨by rw [HV.out.1, HV.out.2, ← HKK.out, ← HX.out]; rfl, HF.out⟩
  · by_cases h64 : -9223372036854775808 ≤ x ∧ x < 9223372036854775808
    · by_cases h7 : x < -2147483648
      · have HV := Lib.hid (raw_far HOK.out (by rw [← HKK.out, ← HX.out]; exact h32))
        have h6 := i64_yes h64
        rw [h6.1, h6.2]
        have f1 : decide (x < -2147483648) = true := decide_eq_true h7
        clear h6 h64 h7
        clear h32
        go_wp2_with fail
        exact bodyPost_ret (v := .tuple #[.int .i64 0, .iface 68 (.int .i64 13)]) (by simp [results, Tryd.results17, go_sem]) rfl ⟨by rw [HV.out.1, HV.out.2]; rfl, HF.out⟩
      · have HV := Lib.hid (raw_far HOK.out (by rw [← HKK.out, ← HX.out]; exact h32))
        have h6 := i64_yes h64
        rw [h6.1, h6.2]
        have f1 : decide (x < -2147483648) = false := decide_eq_false h7
        have f2 : decide (2147483648 ≤ x) = true := decide_eq_true (by omega)
        clear h6 h64 h7
        clear h32
        go_wp2_with fail
        exact bodyPost_ret (v := .tuple #[.int .i64 0, .iface 68 (.int .i64 13)]) (by simp [results, Tryd.results17, go_sem]) rfl ⟨by rw [HV.out.1, HV.out.2]; rfl, HF.out⟩
    · have HV := Lib.hid (raw_far HOK.out (by rw [← HKK.out, ← HX.out]; exact h32))
      have h6 := i64_no h64
      rw [h6.1, h6.2]
      clear h6 h64
      clear h32
      go_wp2_with fail
      exact bodyPost_ret (v := .tuple #[.int .i64 0, .iface 68 (.int .i64 13)]) (by simp [results, Tryd.results17, go_sem]) rfl ⟨by rw [HV.out.1, HV.out.2]; rfl, HF.out⟩
theorem praw_any (n e f : Int) (w : World) (ht : TabAt w) :
    Calls Tryd.prog 17 #[.agg #[.int .i64 n, .int .i64 e], .int .i64 f] w fun r w' => r = .returned (.tuple #[.int .i64 (rawV n e f), errV (rawErr n e f)]) ∧ Below w.heap.size w w' := by
  by_cases h : rawOk n e f
  · exact praw_ok n e f w h ht
  · exact praw_no n e f w h
end Go.Proofs.YtmdfjbpggbhgnaaDoor
namespace Go.Proofs.YtmdfjbpggbhgnaaDoor
open Go.RowKit
def blkA (bs : List Bk) (j : Nat) : Bk := bs[j]?.getD bk0
def scA (F : List Int) (j : Nat) : Int := F[j]?.getD 0
def portFr (ps : List Prt) (a : Int) : Int := (ps[a.toNat]?.getD ⟨0, 0, 0⟩).fr
def rawVv (bs : List Bk) (F : List Int) (j : Nat) : Int := rawV (blkA bs j).vn (blkA bs j).ve (scA F j)
def rawUu (bs : List Bk) (F : List Int) (j : Nat) : Int := rawV (blkA bs j).un (blkA bs j).ue (scA F j)
def errVv (bs : List Bk) (F : List Int) (j : Nat) : Int := rawErr (blkA bs j).vn (blkA bs j).ve (scA F j)
def errUu (bs : List Bk) (F : List Int) (j : Nat) : Int := rawErr (blkA bs j).un (blkA bs j).ue (scA F j)
def conE (bs : List Bk) (F : List Int) (j : Nat) : Int :=
  if kindAt bs j = 1 ∨ kindAt bs j = 2 then errVv bs F j else if kindAt bs j = 11 then (if errVv bs F j = 0 then errUu bs F j else errVv bs F j) else 0
def conV (bs : List Bk) (F : List Int) (j : Nat) : Int := if kindAt bs j = 1 ∨ kindAt bs j = 2 ∨ kindAt bs j = 11 then rawVv bs F j else 0
def conU (bs : List Bk) (F : List Int) (j : Nat) : Int := if kindAt bs j = 11 then rawUu bs F j else 0
def tab (n : Nat) (f : Nat → Int) : List Int := (List.range n).map f
theorem tab_len (n : Nat) (f : Nat → Int) : (tab n f).length = n := by simp [tab]
theorem tab_get {n j : Nat} {f : Nat → Int} (h : j < n) : (tab n f)[j]? = some (f j) := by simp [tab, h]
theorem tab_set {n k : Nat} {f g : Nat → Int} {z : Int} (hz : g k = z) (h : ∀ j, j ≠ k → g j = f j) : (tab n f).set k z = tab n g := by
  refine List.ext_getElem? fun j => ?_
  simp only [tab, List.getElem?_set, List.length_map, List.length_range, List.getElem?_map, List.getElem?_range]
  by_cases hkj : k = j
  · subst hkj
    by_cases hk : k < n
    · simp [hk, hz]
    · simp [hk]
  · rw [if_neg hkj]
    by_cases hj : j < n
    · simp [hj, h j (Ne.symm hkj)]
    · simp [hj]
theorem tab_same {n : Nat} {f g : Nat → Int} (h : ∀ j, j < n → g j = f j) : tab n f = tab n g := by
  unfold tab
  exact List.map_congr_left fun j hj => (h j (List.mem_range.1 hj)).symm
theorem tab_zero (n : Nat) : tab n (fun _ => 0) = List.replicate n 0 := by simp [tab, List.map_const']
def rank (p : Nat → Bool) (j : Nat) : Nat := ((List.range j).filter p).length
theorem rank_get (p : Nat → Bool) (t j : Nat) : ∀ n, ((List.range n).filter p)[t]? = some j ↔ j < n ∧ p j = true ∧ rank p j = t
  | 0 => by simp
  | n + 1 => by
    rw [List.range_succ, List.filter_append]
    have ih := rank_get p t j n
    by_cases hn : p n = true
    · simp only [List.filter_cons, hn, if_true, List.filter_nil]
      by_cases ht : t < ((List.range n).filter p).length
      · rw [List.getElem?_append_left ht, ih]
        constructor
        · exact fun h => ⟨by omega, h.2⟩
        · rintro ⟨h1, h2, h3⟩
          refine ⟨?_, h2, h3⟩
          rcases Nat.lt_or_ge j n with h | h
          · exact h
          · obtain rfl : j = n := by omega
            unfold rank at h3
            omega
      · rw [List.getElem?_append_right (by omega)]
        constructor
        · intro h
          have h0 : t - ((List.range n).filter p).length = 0 := by
            rcases Nat.eq_zero_or_pos (t - ((List.range n).filter p).length) with h1 | h1
            · exact h1
            · rw [List.getElem?_eq_none (by simp; omega)] at h
              cases h
          rw [h0] at h
          have e : n = j := by simpa using h
          subst e
          exact ⟨by omega, hn, by unfold rank; omega⟩
        · rintro ⟨h1, h2, h3⟩
          rcases Nat.lt_or_ge j n with h | h
          · have h4 := ih.2 ⟨h, h2, h3⟩
            have := (List.getElem?_eq_some_iff.1 h4).1
            omega
          · obtain rfl : j = n := by omega
            have : t - ((List.range j).filter p).length = 0 := by unfold rank at h3; omega
            rw [this]
            rfl
    · simp only [List.filter_cons, hn, List.filter_nil, List.append_nil]
      simp only [Bool.false_eq_true, if_false, List.append_nil]
      rw [ih]
      constructor
      · exact fun h => ⟨by omega, h.2⟩
      · rintro ⟨h1, h2, h3⟩
        refine ⟨?_, h2, h3⟩
        rcases Nat.lt_or_ge j n with h | h
        · exact h
        · obtain rfl : j = n := by omega
          exact absurd h2 hn
def dlB (bs : List Bk) (i : Nat) : Bool := kindAt bs i == 2
def cpB (bs : List Bk) (i : Nat) : Bool := kindAt bs i == 11
def dlK (bs : List Bk) (k : Nat) : List Nat := (List.range k).filter (dlB bs)
def cpK (bs : List Bk) (k : Nat) : List Nat := (List.range k).filter (cpB bs)
theorem delL_is (bs : List Bk) : delL bs = dlK bs bs.length := rfl
theorem dlK_succ (bs : List Bk) (k : Nat) : dlK bs (k + 1) = if kindAt bs k = 2 then dlK bs k ++ [k] else dlK bs k := by
  unfold dlK
  rw [List.range_succ, List.filter_append]
  by_cases h : kindAt bs k = 2
  · rw [if_pos h]; simp [dlB, h]
  · rw [if_neg h]; simp [dlB, h]
theorem cpK_succ (bs : List Bk) (k : Nat) : cpK bs (k + 1) = if kindAt bs k = 11 then cpK bs k ++ [k] else cpK bs k := by
  unfold cpK
  rw [List.range_succ, List.filter_append]
  by_cases h : kindAt bs k = 11
  · rw [if_pos h]; simp [cpB, h]
  · rw [if_neg h]; simp [cpB, h]
theorem dlK_len (bs : List Bk) (k : Nat) : (dlK bs k).length ≤ k := by
  have := List.length_filter_le (dlB bs) (List.range k)
  simpa [dlK] using this
theorem cpK_len (bs : List Bk) (k : Nat) : (cpK bs k).length ≤ k := by
  have := List.length_filter_le (cpB bs) (List.range k)
  simpa [cpK] using this
def cellF (bs : List Bk) (j : Nat) : Int :=
  if kindAt bs j = 2 then (bs.length : Int) + (rank (dlB bs) j : Int) else if kindAt bs j = 11 then (bs.length : Int) + ((dlK bs bs.length).length : Int) + 2 * (rank (cpB bs) j : Int) else 0
def opM (k : Int) : Int := if k = 3 then 3 else if k = 4 then 4 else if k = 8 then 8 else if k = 9 then 9 else if k = 5 then 5 else 10
def arg0 (b : Bk) : Int := b.args[0]?.getD 0
def arg1 (b : Bk) : Int := b.args[1]?.getD 0
def blkC (ps : List Prt) (bs : List Bk) (F : List Int) (j : Nat) (c : Int) : List Ins :=
  let b := blkA bs j
  let s := scA F j
  let s0 := scA F (arg0 b).toNat
  let s1 := scA F (arg1 b).toNat
  if b.kind = 0 then [⟨0, j, arg0 b, 0, s - portFr ps (arg0 b), 0, 0⟩]
  else if b.kind = 1 then [⟨1, j, 0, 0, 0, 0, rawVv bs F j⟩]
  else if b.kind = 6 then [⟨6, j, arg0 b, 0, s - s0 + b.ve, 0, b.vn⟩]
  else if b.kind = 7 then [⟨7, j, arg0 b, arg1 b, s - s0 - s1, 0, 0⟩]
  else if b.kind = 11 then [⟨9, j, arg0 b, c, s - s0, 0, 0⟩, ⟨8, j, j, c + 1, 0, 0, 0⟩]
  else if b.args.length = 2 then [⟨opM b.kind, j, arg0 b, arg1 b, s - s0, s - s1, 0⟩]
  else [⟨opM b.kind, j, arg0 b, 0, s - s0, 0, 0⟩]
def mv1 (bs : List Bk) (F : List Int) (j : Nat) : Ins := ⟨2, cellF bs j, arg0 (blkA bs j), 0, scA F j - scA F (arg0 (blkA bs j)).toNat, 0, 0⟩
def mv2 (bs : List Bk) (j : Nat) : Ins := ⟨2, j, cellF bs j, 0, 0, 0, 0⟩
def codeM (ps : List Prt) (bs : List Bk) (F : List Int) : List Ins :=
  (ordM bs).flatMap (fun j => blkC ps bs F j (cellF bs j)) ++ (delL bs).map (mv1 bs F) ++ (delL bs).map (mv2 bs)
def initM (bs : List Bk) (F : List Int) : List Int :=
  tab bs.length (fun j => if kindAt bs j = 2 then conV bs F j else 0) ++ List.replicate (delL bs).length 0 ++ (cpK bs bs.length).flatMap (fun j => [conV bs F j, conU bs F j])
def shOk (x : Ins) : Bool := decide (-62 ≤ x.sa ∧ x.sa ≤ 30 ∧ -62 ≤ x.sb ∧ x.sb ≤ 30)
def scOk30 (z : Int) : Bool := decide (0 ≤ z ∧ z ≤ 30)
def cpErr (ps : List Prt) (bs : List Bk) (F : List Int) : Int :=
  if ¬ F.length = bs.length then 11 else if ¬ F.all scOk30 = true then 3 else if ¬ firstErr ((List.range bs.length).map (conE bs F)) = 0 then firstErr ((List.range bs.length).map (conE bs F))
  else if (codeM ps bs F).all shOk = true then 0 else 3
def cpE (d : Dg) (F : List Int) : Int := if dgErr d.ps d.bs d.os = 0 then cpErr d.ps d.bs F else dgErr d.ps d.bs d.os
theorem firstErr_at {l : List Int} {k : Nat} {e : Int} (h : ∀ j x, j < k → l[j]? = some x → x = 0) (hk : l[k]? = some e) (he : e ≠ 0) : firstErr l = e := by
  induction l generalizing k with
  | nil => simp at hk
  | cons x l ih =>
    unfold firstErr
    cases k with
    | zero =>
      have : x = e := by simpa using hk
      rw [if_neg (by rw [this]; exact he), this]
    | succ k =>
      have hx : x = 0 := h 0 x (by omega) rfl
      rw [if_pos hx]
      exact ih (k := k) (fun j y hj hy => h (j + 1) y (by omega) (by simpa using hy)) (by simpa using hk)
theorem firstErr_allz {l : List Int} (h : ∀ x ∈ l, x = 0) : firstErr l = 0 := by
  induction l with
  | nil => rfl
  | cons x l ih =>
    unfold firstErr
    rw [if_pos (h x (by simp))]
    exact ih fun y hy => h y (by simp [hy])
theorem con_at {bs : List Bk} {F : List Int} {k : Nat} (hk : k < bs.length) (h : ∀ j, j < k → conE bs F j = 0) (he : conE bs F k ≠ 0) : firstErr ((List.range bs.length).map (conE bs F)) = conE bs F k :=
  firstErr_at (k := k) (fun j x hj hx => by
    have hjn : j < bs.length := by omega
    simp [hjn] at hx
    rw [← hx]
    exact h j hj) (by simp [hk]) he
theorem con_all {bs : List Bk} {F : List Int} (h : ∀ j, j < bs.length → conE bs F j = 0) : firstErr ((List.range bs.length).map (conE bs F)) = 0 :=
  firstErr_allz fun x hx => by
    obtain ⟨j, hj, rfl⟩ := List.mem_map.1 hx
    exact h j (List.mem_range.1 hj)
section
variable {ps : List Prt} {bs : List Bk} {F : List Int}
theorem cp_1 (h : ¬ F.length = bs.length) : cpErr ps bs F = 11 := if_pos h
theorem cp_2 (h : F.length = bs.length) (h2 : ¬ F.all scOk30 = true) : cpErr ps bs F = 3 := by unfold cpErr; rw [if_neg (not_not_intro h), if_pos h2]
theorem cp_3 (h : F.length = bs.length) (h2 : F.all scOk30 = true) {k : Nat} (hk : k < bs.length) (h3 : ∀ j, j < k → conE bs F j = 0) (he : conE bs F k ≠ 0) : cpErr ps bs F = conE bs F k := by
  unfold cpErr
  rw [if_neg (not_not_intro h), if_neg (not_not_intro h2), con_at hk h3 he, if_pos he]
theorem cp_4 (h : F.length = bs.length) (h2 : F.all scOk30 = true) (h3 : ∀ j, j < bs.length → conE bs F j = 0) : cpErr ps bs F = if (codeM ps bs F).all shOk = true then 0 else 3 := by
  unfold cpErr
  rw [if_neg (not_not_intro h), if_neg (not_not_intro h2), con_all h3, if_neg (by simp)]
theorem sc_range (h2 : F.all scOk30 = true) (j : Nat) : 0 ≤ scA F j ∧ scA F j ≤ 30 := by
  unfold scA
  cases hj : F[j]? with
  | none => simp
  | some z =>
    have := List.all_eq_true.1 h2 z (List.mem_of_getElem? hj)
    have := of_decide_eq_true this
    simpa using this
theorem blkA_of {j : Nat} {y : Bk} (h : bs[j]? = some y) : blkA bs j = y := by unfold blkA; rw [h]; rfl
theorem kindA_of {j : Nat} {y : Bk} (h : bs[j]? = some y) : kindAt bs j = y.kind := by unfold kindAt; rw [h]; rfl
theorem scA_of {j : Nat} {z : Int} (h : F[j]? = some z) : scA F j = z := by unfold scA; rw [h]; rfl
end
end Go.Proofs.YtmdfjbpggbhgnaaDoor
namespace Go.Proofs.YtmdfjbpggbhgnaaDoor
open Go.RowKit
section
variable {ps : List Prt} {bs : List Bk} {os : List Int}
theorem acc_blk (h : dgErr ps bs os = 0) {i : Nat} {y : Bk} (hy : bs[i]? = some y) : blkErr ps.length bs.length y = 0 :=
  firstErr_zero (pre_blk (pre_of h).2.1) _ (List.mem_map.2 ⟨y, List.mem_of_getElem? hy, rfl⟩)
theorem acc_args (h : dgErr ps bs os = 0) {i : Nat} {y : Bk} (hy : bs[i]? = some y) : 0 ≤ arityM y.kind ∧ ((y.args.length : Nat) : Int) = arityM y.kind ∧ ∀ a ∈ y.args, 0 ≤ a ∧ a < (mostM ps.length bs.length y.kind : Int) := blk_args (acc_blk h hy)
theorem acc_sc (h : dgErr ps bs os = 0) {i : Nat} {y : Bk} (hy : bs[i]? = some y) (hv : valU y.kind = true) : scOk y.vn y.ve := by
  have h1 := acc_blk h hy
  have ha := acc_args h hy
  unfold blkErr at h1
  rw [if_neg (by omega), if_neg (not_not_intro ha.2.1)] at h1
  by_cases h3 : firstErr (y.args.map (outE (mostM ps.length bs.length y.kind))) = 0
  · rw [if_neg (not_not_intro h3)] at h1
    by_cases h4 : scalE y.vn y.ve (valU y.kind) = 0
    · rw [hv] at h4
      unfold scalE at h4
      rw [if_pos rfl] at h4
      by_cases h5 : scOk y.vn y.ve
      · exact h5
      · rw [if_neg h5] at h4; cases h4
    · rw [if_pos h4] at h1
      exact absurd h1 h4
  · rw [if_pos h3] at h1
    cases h1
theorem acc_port (h : dgErr ps bs os = 0) {i : Nat} {p : Prt} (hp : ps[i]? = some p) : portE p = 0 := by
  have h1 := (pre_of h).2.1
  unfold preErr at h1
  rw [firstErr_append] at h1
  by_cases h2 : firstErr (ps.map portE) = 0
  · exact firstErr_zero h2 _ (List.mem_map.2 ⟨p, List.mem_of_getElem? hp, rfl⟩)
  · rw [if_neg h2] at h1
    exact absurd h1 h2
theorem ord_at {u i : Nat} (h : (ordM bs)[u]? = some i) : i < bs.length ∧ kindAt bs i ≠ 2 := (ordN_ok bs.length (OutOk.nil bs)).mem i (List.mem_of_getElem? h)
theorem ord_len : (ordM bs).length ≤ bs.length := Nat.le_trans (ordN_ok bs.length (OutOk.nil bs)).le (nonDel_le bs)
end
theorem code_next {ps : List Prt} {bs : List Bk} {F : List Int} {u i : Nat} (h : (ordM bs)[u]? = some i) :
    ((ordM bs).take (u + 1)).flatMap (fun j => blkC ps bs F j (cellF bs j)) = ((ordM bs).take u).flatMap (fun j => blkC ps bs F j (cellF bs j)) ++ blkC ps bs F i (cellF bs i) := by
  rw [List.take_add_one, h]
  simp
theorem blkC_len {ps : List Prt} {bs : List Bk} {F : List Int} (j : Nat) (c : Int) : (blkC ps bs F j c).length ≤ 2 := by
  unfold blkC
  dsimp only
  repeat' split
  all_goals simp
theorem code_len {ps : List Prt} {bs : List Bk} {F : List Int} (l : List Nat) : (l.flatMap (fun j => blkC ps bs F j (cellF bs j))).length ≤ 2 * l.length := by
  induction l with
  | nil => simp
  | cons x l ih =>
    have := blkC_len (ps := ps) (bs := bs) (F := F) x (cellF bs x)
    simp only [List.flatMap_cons, List.length_append, List.length_cons]
    omega
end Go.Proofs.YtmdfjbpggbhgnaaDoor
namespace Go.Proofs.YtmdfjbpggbhgnaaDoor
open Go.RowKit
theorem op_eq {a b : Int} (h : a = b) : Ending.returned (.int .i64 a) = .returned (.int .i64 b) := by rw [h]
theorem operation_any (k : Int) (w : World) : Calls Tryd.prog 21 #[.int .i64 k] w fun e w' => e = .returned (.int .i64 (opM k)) ∧ w = w' := by
  go_enter Tryd.func21, Tryd.ntmps21
  go_wp2
  all_goals
    go_ret
    exact ⟨op_eq (by unfold opM; simp_all), rfl⟩
end Go.Proofs.YtmdfjbpggbhgnaaDoor
namespace Go.Proofs.YtmdfjbpggbhgnaaDoor
open Go.RowKit
def aProg (t : Bool) (ps : List Prt) (is : List Int) (xs : List Ins) (os : List Int) : A := .agg [rowP t ps, rowI t is, rowN t xs, rowI t os]
theorem raw_cv (n e f : Int) : CVF Tryd.prog TabAt 17 [.agg [dI n, dI e], aI f] [aI (rawV n e f), aE (rawErr n e f)] := fun w S vs hg hlt ha => by
  obtain ⟨v, vs', rfl, h1, ha⟩ := ha.uncons
  obtain ⟨u, hu, h2⟩ := one_arg ha
  subst hu
  obtain ⟨xs, rfl, h3⟩ := h1
  have h4 := vals_rel (vs := [.int .i64 n, .int .i64 e]) h3
  subst h4
  cases h2
  refine (praw_any n e f w hg).mono fun r w' ⟨he, hb⟩ => ?_
  exact ⟨_, he, two_rel (DRel.val rfl) (DRel.val (errV_one _)), hb⟩
theorem op_cv (k : Int) : CVF Tryd.prog TabAt 21 [aI k] [aI (opM k)] := fun w S vs hg hlt ha => by
  obtain ⟨u, hu, h2⟩ := one_arg ha
  subst hu
  cases h2
  refine (operation_any k w).mono fun r w' ⟨he, hw⟩ => ?_
  subst hw
  exact ⟨_, he, DRel.val rfl, Below.refl _ _⟩
theorem cI_app2 (xs : List Int) (y z : Int) : cI xs ++ [.d (.val (.int .i64 y)), .d (.val (.int .i64 z))] = cI (xs ++ [y, z]) := by simp [cI]
def cD (ds : List D) : List C := ds.map C.d
theorem cD_app (xs ys : List D) : cD xs ++ cD ys = cD (xs ++ ys) := (List.map_append ..).symm
theorem nat_at {l : List Nat} {t j : Nat} (h : l[t]? = some j) : (natI l)[t]? = some (j : Int) := by simp [natI, h]
def upto (f : Nat → Int) (k j : Nat) : Int := if j < k then f j else 0
theorem upto_put {n k : Nat} {f : Nat → Int} : (tab n (upto f k)).set k (f k) = tab n (upto f (k + 1)) :=
  tab_set (by unfold upto; rw [if_pos (by omega)]) fun j hj => by
    unfold upto
    by_cases h : j < k
    · rw [if_pos h, if_pos (by omega)]
    · rw [if_neg h, if_neg (by omega)]
theorem upto_skip {n k : Nat} {f : Nat → Int} (h : f k = 0) : tab n (upto f k) = tab n (upto f (k + 1)) :=
  tab_same fun j _ => by
    unfold upto
    by_cases h1 : j < k
    · rw [if_pos h1, if_pos (by omega)]
    · by_cases h2 : j = k
      · subst h2
        rw [if_neg h1, if_pos (by omega), h]
      · rw [if_neg h1, if_neg (by omega)]
theorem upto_all {n : Nat} {f : Nat → Int} : tab n (upto f n) = tab n f := tab_same fun j hj => by unfold upto; rw [if_pos hj]
theorem upto_zero (n : Nat) (f : Nat → Int) : tab n (upto f 0) = List.replicate n 0 := by
  rw [← tab_zero]
  exact tab_same fun j _ => by unfold upto; rw [if_neg (by omega)]
def initF (bs : List Bk) (F : List Int) (j : Nat) : Int := if kindAt bs j = 2 then conV bs F j else 0
def cellD (bs : List Bk) (t j : Nat) : Int := if kindAt bs j = 2 ∧ rank (dlB bs) j < t then (bs.length : Int) + (rank (dlB bs) j : Int) else 0
def cellC (bs : List Bk) (t j : Nat) : Int :=
  if kindAt bs j = 2 then (bs.length : Int) + (rank (dlB bs) j : Int) else if kindAt bs j = 11 ∧ rank (cpB bs) j < t then (bs.length : Int) + ((dlK bs bs.length).length : Int) + 2 * (rank (cpB bs) j : Int) else 0
theorem dl_at {bs : List Bk} {t j : Nat} : (dlK bs bs.length)[t]? = some j ↔ j < bs.length ∧ kindAt bs j = 2 ∧ rank (dlB bs) j = t := by
  unfold dlK
  rw [rank_get (dlB bs) t j]
  simp [dlB]
theorem cp_at {bs : List Bk} {t j : Nat} : (cpK bs bs.length)[t]? = some j ↔ j < bs.length ∧ kindAt bs j = 11 ∧ rank (cpB bs) j = t := by
  unfold cpK
  rw [rank_get (cpB bs) t j]
  simp [cpB]
theorem rank_dl_lt {bs : List Bk} {j : Nat} (h : j < bs.length) (hk : kindAt bs j = 2) : rank (dlB bs) j < (dlK bs bs.length).length :=
  (List.getElem?_eq_some_iff.1 (dl_at.2 ⟨h, hk, rfl⟩)).1
theorem rank_cp_lt {bs : List Bk} {j : Nat} (h : j < bs.length) (hk : kindAt bs j = 11) : rank (cpB bs) j < (cpK bs bs.length).length :=
  (List.getElem?_eq_some_iff.1 (cp_at.2 ⟨h, hk, rfl⟩)).1
theorem rank_inj (p : Nat → Bool) {i j : Nat} (hi : p i = true) (hj : p j = true) (h : rank p i = rank p j) : i = j := by
  have h1 := (rank_get p (rank p i) i (i + j + 1)).2 ⟨by omega, hi, rfl⟩
  have h2 := (rank_get p (rank p i) j (i + j + 1)).2 ⟨by omega, hj, h.symm⟩
  rw [h1] at h2
  exact Option.some.inj h2
theorem cellD_at {bs : List Bk} {t i : Nat} (h : (dlK bs bs.length)[t]? = some i) : cellD bs (t + 1) i = (bs.length : Int) + (t : Int) := by
  obtain ⟨_, h2, h3⟩ := dl_at.1 h
  unfold cellD
  rw [if_pos ⟨h2, by omega⟩, h3]
theorem cellD_far {bs : List Bk} {t i j : Nat} (h : (dlK bs bs.length)[t]? = some i) (hj : j ≠ i) : cellD bs (t + 1) j = cellD bs t j := by
  obtain ⟨_, h2, h3⟩ := dl_at.1 h
  unfold cellD
  by_cases hk : kindAt bs j = 2
  · by_cases hr : rank (dlB bs) j < t
    · rw [if_pos ⟨hk, by omega⟩, if_pos ⟨hk, hr⟩]
    · have hne : rank (dlB bs) j ≠ t := fun e => hj (rank_inj (dlB bs) (by simp [dlB, hk]) (by simp [dlB, h2]) (by rw [e, h3]))
      rw [if_neg (fun hc => by have := hc.2; omega), if_neg (fun hc => hr hc.2)]
  · rw [if_neg (fun hc => hk hc.1), if_neg (fun hc => hk hc.1)]
theorem cellD_zero (bs : List Bk) (n : Nat) (f : Nat → Int) : tab n (upto f 0) = tab n (cellD bs 0) := tab_same fun j _ => by
  unfold cellD upto
  rw [if_neg (by omega), if_neg (by omega)]
theorem cellC_zero (bs : List Bk) : tab bs.length (cellD bs (dlK bs bs.length).length) = tab bs.length (cellC bs 0) := tab_same fun j hj => by
  unfold cellC cellD
  by_cases hk : kindAt bs j = 2
  · rw [if_pos hk, if_pos ⟨hk, rank_dl_lt hj hk⟩]
  · rw [if_neg hk, if_neg (by omega), if_neg (fun hc => hk hc.1)]
theorem cellC_at {bs : List Bk} {t i : Nat} (h : (cpK bs bs.length)[t]? = some i) : cellC bs (t + 1) i = (bs.length : Int) + ((dlK bs bs.length).length : Int) + 2 * (t : Int) := by
  obtain ⟨_, h2, h3⟩ := cp_at.1 h
  unfold cellC
  rw [if_neg (by omega), if_pos ⟨h2, by omega⟩, h3]
theorem cellC_far {bs : List Bk} {t i j : Nat} (h : (cpK bs bs.length)[t]? = some i) (hj : j ≠ i) : cellC bs (t + 1) j = cellC bs t j := by
  obtain ⟨_, h2, h3⟩ := cp_at.1 h
  unfold cellC
  by_cases hd : kindAt bs j = 2
  · rw [if_pos hd, if_pos hd]
  · rw [if_neg hd, if_neg hd]
    by_cases hk : kindAt bs j = 11
    · by_cases hr : rank (cpB bs) j < t
      · rw [if_pos ⟨hk, by omega⟩, if_pos ⟨hk, hr⟩]
      · have hne : rank (cpB bs) j ≠ t := fun e => hj (rank_inj (cpB bs) (by simp [cpB, hk]) (by simp [cpB, h2]) (by rw [e, h3]))
        rw [if_neg (fun hc => by have := hc.2; omega), if_neg (fun hc => hr hc.2)]
    · rw [if_neg (fun hc => hk hc.1), if_neg (fun hc => hk hc.1)]
theorem cellC_all (bs : List Bk) : tab bs.length (cellC bs (cpK bs bs.length).length) = tab bs.length (cellF bs) := tab_same fun j hj => by
  unfold cellC cellF
  by_cases hd : kindAt bs j = 2
  · rw [if_pos hd, if_pos hd]
  · rw [if_neg hd, if_neg hd]
    by_cases hk : kindAt bs j = 11
    · rw [if_pos hk, if_pos ⟨hk, rank_cp_lt hj hk⟩]
    · rw [if_neg hk, if_neg (fun hc => hk hc.1)]
theorem flat2_len (f g : Nat → Int) (l : List Nat) : (l.flatMap fun j => [f j, g j]).length = 2 * l.length := by
  induction l with
  | nil => rfl
  | cons x l ih =>
    simp only [List.flatMap_cons, List.length_append, List.length_cons, List.length_nil, ih]
    omega
theorem flat2_next {f g : Nat → Int} {l : List Nat} {s i : Nat} (h : l[s]? = some i) : (l.take (s + 1)).flatMap (fun j => [f j, g j]) = (l.take s).flatMap (fun j => [f j, g j]) ++ [f i, g i] := by
  rw [List.take_add_one, h]
  simp
def cdA (ps : List Prt) (bs : List Bk) (F : List Int) (t : Nat) : List Ins := ((ordM bs).take t).flatMap (fun j => blkC ps bs F j (cellF bs j))
def cdB (ps : List Prt) (bs : List Bk) (F : List Int) (t : Nat) : List Ins := cdA ps bs F (ordM bs).length ++ ((dlK bs bs.length).take t).map (mv1 bs F)
def cdC (ps : List Prt) (bs : List Bk) (F : List Int) (t : Nat) : List Ins := cdB ps bs F (dlK bs bs.length).length ++ ((dlK bs bs.length).take t).map (mv2 bs)
section
variable {ps : List Prt} {bs : List Bk} {F : List Int} {t j : Nat}
theorem cdB_zero : cdB ps bs F 0 = cdA ps bs F (ordM bs).length := by unfold cdB; rw [List.take_zero, List.map_nil, List.append_nil]
theorem cdC_zero : cdC ps bs F 0 = cdB ps bs F (dlK bs bs.length).length := by unfold cdC; rw [List.take_zero, List.map_nil, List.append_nil]
theorem cdC_all : cdC ps bs F (dlK bs bs.length).length = codeM ps bs F := by
  unfold cdC cdB cdA codeM
  rw [List.take_length, List.take_length, delL_is]
theorem cdA_next (h : (ordM bs)[t]? = some j) : cdA ps bs F (t + 1) = cdA ps bs F t ++ blkC ps bs F j (cellF bs j) := code_next h
theorem cdB_next (h : (dlK bs bs.length)[t]? = some j) : cdB ps bs F (t + 1) = cdB ps bs F t ++ [mv1 bs F j] := by
  unfold cdB
  rw [List.take_add_one, h]
  simp
theorem cdC_next (h : (dlK bs bs.length)[t]? = some j) : cdC ps bs F (t + 1) = cdC ps bs F t ++ [mv2 bs j] := by
  unfold cdC
  rw [List.take_add_one, h]
  simp
theorem cdA_len (t : Nat) : (cdA ps bs F t).length ≤ 2 * t := Nat.le_trans (code_len _) (by rw [List.length_take]; omega)
theorem cdB_len (t : Nat) : (cdB ps bs F t).length ≤ 2 * (ordM bs).length + t := by
  unfold cdB
  have := cdA_len (ps := ps) (bs := bs) (F := F) (ordM bs).length
  rw [List.length_append, List.length_map, List.length_take]
  omega
theorem cdC_len (t : Nat) : (cdC ps bs F t).length ≤ 2 * (ordM bs).length + (dlK bs bs.length).length + t := by
  unfold cdC
  have := cdB_len (ps := ps) (bs := bs) (F := F) (dlK bs bs.length).length
  rw [List.length_append, List.length_map, List.length_take]
  omega
theorem ins_put {X Y : List Ins} {x : Ins} (h : Y = X ++ [x]) : cD (flatD dIns X) ++ [.d (dI x.op), .d (dI x.dst), .d (dI x.a), .d (dI x.b), .d (dI x.sa), .d (dI x.sb), .d (dI x.imm)] = cD (flatD dIns Y) := by
  rw [h, flatD_app, ← cD_app]
  rfl
theorem ins_put2 {X Y : List Ins} {x y : Ins} (h : Y = X ++ [x, y]) : cD (flatD dIns X) ++ ([.d (dI x.op), .d (dI x.dst), .d (dI x.a), .d (dI x.b), .d (dI x.sa), .d (dI x.sb), .d (dI x.imm)] ++ [.d (dI y.op), .d (dI y.dst), .d (dI y.a), .d (dI y.b), .d (dI y.sa), .d (dI y.sb), .d (dI y.imm)]) = cD (flatD dIns Y) := by
  rw [h, flatD_app, ← cD_app]
  rfl
theorem len_put {X Y : List Ins} {x : Ins} (h : Y = X ++ [x]) : X.length + 1 = Y.length := by rw [h, List.length_append]; rfl
theorem len_put2 {X Y : List Ins} {x y : Ins} (h : Y = X ++ [x, y]) : X.length + 2 = Y.length := by rw [h, List.length_append]; rfl
theorem insC_at {xs : List Ins} {k : Nat} {y : Ins} (h : xs[k]? = some y) : ((cD (flatD dIns xs)).drop (k * 7)).take 7 = cD (dIns y) := by
  unfold cD
  rw [← List.map_drop, ← List.map_take, ins_at h]
end
theorem ints_free (xs : List Int) : ∀ d ∈ xs.map dI, DFree d := fun d hd => by obtain ⟨z, _, rfl⟩ := List.mem_map.1 hd; exact .val _
theorem cI_D (xs : List Int) : cI xs = cD (xs.map dI) := by simp [cI, cD, dI]
theorem cexp_oDx {t : Bool} {H : List Ob} {id ty s n : Nat} {c : C} {y : D} {ds : List D} (hc : c = .own id n) (hH : H[id]? = some (.row ty s n (cD ds))) (hy : y = .row t s n ds) (hf : t = false → ∀ d ∈ ds, DFree d) : CExp t H c y := by
  rw [hc, hy]
  exact .own hH (by simp [cD]) fun j c d h1 h2 => by
    have h3 : c = .d d := by
      simp only [cD, List.getElem?_map, h2, Option.map_some, Option.some.injEq] at h1
      exact h1.symm
    rw [h3]
    exact .d fun ht => hf ht d (List.mem_of_getElem? h2)
theorem cexp_oI {H : List Ob} {id ty n : Nat} {c : C} {y : D} {xs : List Int} (hc : c = .own id n) (hH : H[id]? = some (.row ty 1 n (cI xs))) (hn : n = xs.length) (hy : y = rowI false xs) : CExp false H c y := by
  subst hn
  exact cexp_oDx hc (by rw [hH, cI_D]) hy fun _ d hd => by obtain ⟨z, _, rfl⟩ := List.mem_map.1 hd; exact .val _
end Go.Proofs.YtmdfjbpggbhgnaaDoor
