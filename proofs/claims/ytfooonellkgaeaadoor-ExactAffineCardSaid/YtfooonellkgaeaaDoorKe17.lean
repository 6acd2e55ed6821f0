/- What the proofs of this claim share, part 17. No conditions. -/
import Derived.Test.YtfooonellkgaeaaDoorKe9
import Derived.Test.YtfooonellkgaeaaDoorKe7
import Derived.Test.YtfooonellkgaeaaDoorKe10
import Derived.Test.YtfooonellkgaeaaDoorKe16
import Derived.Test.YtfooonellkgaeaaDoorKe15
import Derived.Test.YtfooonellkgaeaaDoorKe6
import Derived.Test.YtfooonellkgaeaaDoorKe8
import Derived.Test.YtfooonellkgaeaaDoorKe4
import Derived.Test.YtfooonellkgaeaaDoorKe5
import Derived.Handed
import Derived.LaidMore
import Derived.Lib.LaidTab
import Derived.Test.YtfooonellkgaeaaDoorTie
import Derived.Test.YtfooonellkgaeaaDoorCards
import Derived.SevenTiedAt
set_option maxRecDepth 100000
set_option maxHeartbeats 4000000
set_option linter.unusedVariables false
set_option linter.unusedSimpArgs false
set_option linter.unusedSectionVars false
namespace Go.Proofs.YtfooonellkgaeaaDoor
open Go.ChangeShapes Go.WideShapes Go.ChangeAt Go.RowKit Go.Joins Go.Deep
theorem gTab : Tryd.prog.globalNamed "math/bits.deBruijn32tab" = some 0 := by kernel_rfl
theorem tTab : (Tryd.prog.globals[0]?).map (·.type) = some 133 := by kernel_rfl
def laidT : List (String × DataW Unit) := [("math/bits.deBruijn32tab", Rows.laid_math_bits_deBruijn32tab)]
theorem tab_of {W : World} (h : laidMetH Tryd.prog laidT W) : TabAt W := by
  rw [MakeChecks.laidMetH_plain _ _ _ (by kernel_rfl)] at h
  have h2 : laidMet Tryd.prog (("math/bits.deBruijn32tab", Lib.tabData .u8 tzTab) :: []) W := h
  have hT := Lib.tabIs_of_head gTab tTab Tryd.underlying133 Tryd.underlying5 (by kernel_rfl) (by kernel_rfl) h2
  have hc : ∀ j z, tzTab[j]? = some z → W.cell? ⟨0, j, none⟩ = some (.int .u8 z) := fun j z hz => by
    have hj : j < tzTab.length := (List.getElem?_eq_some_iff.1 hz).1
    have := hT.cell gTab j hj
    rwa [show tzTab.getD j 0 = z by simp [List.getD, hz]] at this
  refine ⟨?_, hc⟩
  have h0 := hc 0 0 rfl
  rcases Nat.lt_or_ge 0 W.heap.size with h3 | h3
  · exact h3
  · simp [World.cell?, Array.getElem?_eq_none h3] at h0
theorem door_met (os : Os) (args : Array Value) : laidMetH Tryd.prog laidT ((World.doorLaid Tryd.prog 400 os).forCall (fun _ _ => 0) ⟨#[], args, []⟩).memory :=
  laidMetH_of_parts3 (fuel := 8) (laidMet_of_run' 8 (by kernel_rfl) (by kernel_rfl)) (by kernel_rfl) (by kernel_rfl)
theorem door_shaped (os : Os) (args : Array Value) : ((World.doorLaid Tryd.prog 400 os).forCall (fun _ _ => 0) ⟨#[], args, []⟩).Shaped Tryd.prog := World.shaped_of_RefB (by kernel_rfl) (by kernel_rfl)
theorem own : ownKnob Tryd.prog.godebug = none := by kernel_rfl
theorem laidOut : laidOutB Tryd.prog = true := by kernel_rfl
theorem law_lift_laid {H : Type} {enc : TypeId × Value → H} {C : Checked} {os : Os} {f : FuncId} {fn : Func} {s : ChangeSpec} {conds : List PathCond} {T : TypeId} {laid : List (String × DataW Unit)}
    (own : ownKnob C.prog.godebug = none) (started : os.Started) (noInit : C.prog.inits.idxOf? f = none) (hfn : C.prog.funcs[f]? = some fn)
    (witness : ∃ (w : World) (tape : Tape) (i : Input), w.os = os ∧ (w.forCall tape i).Shaped C.prog ∧ i.vars = [] ∧ Input.okWide C.prog (w.forCall tape i) .any w.heap.size f i ∧
      ((s.pre enc C.prog fn conds false (w.forCall tape i).memory i.args ∧ laidMetH C.prog laid (w.forCall tape i).memory) ∧ sizedMet enc C.prog fn (OpenSpec.ofChange s) false (w.forCall tape i).memory i.args) ∧ ({} : Assume).holds C.prog (lone (Frame.enter C.prog f i.args .normal) [] (w.forCall tape i)))
    (hl : laidOutB C.prog = true) (hr0 : (fn.params.toList.all fun t => C.prog.readableRec t && decide (t < C.prog.types.size)) = true) (hvars : s.vars = []) (hT : C.prog.underlying T = some .bool) (hres : fn.resultTypes = #[T])
    (hs : ∀ ds : List (DataW H), ds.length = fn.params.size → (s.fn H ds).results = [.lit (.bool true)] ∧ (s.fn H ds).args = ds ∧ (s.fn H ds).vars = [])
    (walk : ∀ (W : World) (base : Nat) (args : Array Value) (ds : List (DataW H)) (p : List MemPlace),
      (∀ (j : Nat) t v, fn.params[j]? = some t → args[j]? = some v → Value.okWide C.prog W .any base t v) → DataW.TrodAll enc C.prog W 0 (fun _ => true) true fn.params.toList args.toList ds p →
      (∀ x ∈ p, x.block < W.heap.size) → (DataW.weightsEach C.prog fn.params.toList ds).all (· ≤ reachBytes) = true → laidMetH C.prog laid W →
      Calls C.prog f args W fun e W' => e = .returned (.bool true) ∧ Below W.heap.size W W') :
    ReturnsInHanded {} C os f .any (fun w args => (s.pre enc C.prog fn conds false w args ∧ laidMetH C.prog laid w) ∧ sizedMet enc C.prog fn (OpenSpec.ofChange s) false w args) (s.post enc C.prog fn false true false false) := by
  have hr : ∀ t ∈ fn.params.toList, C.prog.readableRec t = true ∧ t < C.prog.types.size := fun t ht => by
    have := List.all_eq_true.1 hr0 t ht
    simpa using this
  refine returnsInHanded_of_change_and (X := fun w _ => laidMetH C.prog laid w) (fun _ _ _ hh h => h.of_heap hh) own started noInit hfn witness ?_
  intro W base args ds gs before hval hW _ hsz hL _
  have hW0 := hW
  obtain ⟨p, q, hA, hV, rfl, _, _⟩ := hW
  have hlt : ∀ x ∈ p ++ q, x.block < W.heap.size := fun x hx => hW0.lt x hx
  have hV' := hV
  rw [hvars] at hV'
  obtain ⟨rfl, rfl⟩ := trodVars_none hV'
  have hvt : s.plain.varTypes C.prog = [] := by
    simp [DataSpec.varTypes, ChangeSpec.plain, hvars]
  rw [hvt, List.append_nil, List.append_nil] at hsz
  refine (walk W base args ds p hval hA (fun x hx => hlt x (by simp [hx])) hsz hL).mono fun e W' ⟨he, hb⟩ => ?_
  exact ⟨_, he, law_post hl hr hvars hT hres hs hW0 hb⟩
end Go.Proofs.YtfooonellkgaeaaDoor
namespace Go.Proofs.YtfooonellkgaeaaDoor
open Go.RowKit
end Go.Proofs.YtfooonellkgaeaaDoor
namespace Go.Proofs.YtfooonellkgaeaaDoor
open Go.RowKit
structure Lx (w0 w : World) (d : Dg) : Prop where
  bel : Below w0.heap.size w0 w
  box : RowD w w0.heap.size d.vals 41
  tab : TabAt w
theorem markL_len (m : List Bool) : (markL m).length ≤ m.length := by
  unfold markL
  have := List.length_filter_le (fun i => m[i]?.getD false) (List.range m.length)
  simpa using this
end Go.Proofs.YtfooonellkgaeaaDoor
namespace Go.Proofs.YtfooonellkgaeaaDoor
open Go.RowKit
theorem any_hit {α : Type} {p : α → Bool} {l : List α} {t : Nat} {x : α} (hx : l[t]? = some x) (h : p x = true) : l.any p = true := List.any_eq_true.2 ⟨x, List.mem_of_getElem? hx, h⟩
def NoneT {α : Type} (p : α → Bool) (l : List α) (t : Nat) : Prop := (l.take t).any p = false
theorem NoneT.zero {α : Type} (p : α → Bool) (l : List α) : NoneT p l 0 := by simp [NoneT]
theorem NoneT.succ {α : Type} {p : α → Bool} {l : List α} {t : Nat} {x : α} (h : NoneT p l t) (hx : l[t]? = some x) (hp : p x = false) : NoneT p l (t + 1) := by
  unfold NoneT at h ⊢
  rw [List.take_add_one, hx, List.any_append, h]
  simp [hp]
theorem NoneT.all {α : Type} {p : α → Bool} {l : List α} {t : Nat} (h : NoneT p l t) (ht : l.length ≤ t) : l.any p = false := by
  unfold NoneT at h
  rwa [List.take_of_length_le ht] at h
def vaRel (bs : List Bk) (L : List Nat) (w4 : World) (i : Value) (wr : World) : Prop := ∃ t : Nat, t ≤ L.length ∧ i = .int .i64 (t : Int) ∧ NoneT (srcB bs) L t ∧ wr = w4
theorem varies_any (d : Dg) (k m : Nat) (w : World) (hm : m ≤ w.heap.size) (hd : DgAt w m d) (hok : SuccOk d.bs) (hk : k < d.bs.length) :
    Calls Tryd.prog 62 #[d.val, .int .i64 (k : Int)] w fun e w' => e = .returned (.bool (variesB d.bs k)) ∧ Below w.heap.size w w' := by
  have hl2 := hd.l2
  have HD := Lib.hid hd
  have HOK := Lib.hid hok
  clear hd hok
  obtain ⟨A1, ps, c1, A2, bs, c2, A3, os, c3⟩ := d
  dsimp only at hl2 hk HOK
  simp only [Dg.val]
  have hki : (k : Int) < (bs.length : Int) := by omega
  have r0 := RowD.new_ w [.slice A1 ps.length c1, .slice A2 bs.length c2, .slice A3 os.length c3] 41
  have R0 := Lib.hid r0
  clear r0
  obtain ⟨i0, hi, hz0, hz1, hz2⟩ := info_parts info_bool
  go_enter Tryd.func62, Tryd.ntmps62
  go_wp2_with (first
    | (at_make; (with_reducible refine wpList_make_full _ rfl (.tmp 10) (.tmp 10) 102 rfl (w.heap.size + 1) 4 i0 (.bool false) 1 under_bools hi hz0 hz1 .i64 .i64 bs.length bs.length bs.length rfl rfl rfl rfl (by rw [hz2]; omega) (by unfold maxLen; omega) (by first | assumption | (simp; done) | (simp; omega)) ?_; intro w2 hown hg); have hst : Below (w.heap.size + 1) (w.alloc (.cells #[.slice A1 ps.length c1, .slice A2 bs.length c2, .slice A3 os.length c3] 41)) w2 := (Below.refl _ _).grown hg (by simp) (fun k h => by simp at h); have hrow := rowD_of hown; rw [made_bools] at hrow; simp only [size_al1] at hrow; have R2 := Lib.hid (R0.out.below hst (by omega)); have HROW := Lib.hid hrow; have hzg := hrow.lt; have q0 : w2.cell? ⟨w.heap.size, 0, none⟩ = some (.slice A1 ps.length c1) := R2.out.cell 0; have q1 : w2.cell? ⟨w.heap.size, 1, none⟩ = some (.slice A2 bs.length c2) := R2.out.cell 1; have q2 : w2.cell? ⟨w.heap.size, 2, none⟩ = some (.slice A3 os.length c3) := R2.out.cell 2; have z2 : w.heap.size < w2.heap.size := (by omega); have N2 := Lib.hid ((al_ w _).trans (hst.mono (by omega))); clear hown hrow hst hg)
    | (go_at_call 68; refine (mark_any ⟨A1, ps, c1, A2, bs, c2, A3, os, c3⟩ m (w.heap.size + 1) true (by omega) HOK.out (bs.length + 1) (List.replicate bs.length false) k w2 (by have := unM_le (List.replicate bs.length false); simp at this; omega) (by simp) hk (HD.out.below N2.out hm) HROW.out).mono ?_; rintro e w3 ⟨rfl, l', hp, hrow3, hap⟩; have HL := Lib.hid (mark_isT HOK.out hk hp); have hl3 : l'.length = bs.length := (by rw [hp.len]; simp); have HROW3 := Lib.hid hrow3; have N3 := Lib.hid (N2.out.trans (hap.below (by omega) (by omega))); have R3 := Lib.hid (R2.out.apart hap (by omega)); have HLL := Lib.hid hl3; clear hp hrow3 hap hl3 q0 q1 q2)
    | (go_at_call 69; rw [← HLL.out]; refine (list_any (some ⟨w.heap.size + 1, 0, none⟩) l' l'.length w3.heap.size w3 (Nat.le_refl _) (HROW3.out.cells_ HROW3.out.lt) (by have := HLL.out; omega)).mono ?_; rintro e w4 ⟨v4, rfl, D4, hb4⟩; obtain ⟨A4, c4, rfl, _, hc4⟩ := D4.view; have N4 := Lib.hid (N3.out.trans (hb4.mono N3.out.size)); have R4 := Lib.hid (R3.out.call hb4); have HC4 := Lib.hid hc4; clear hc4 hb4))
  rw [natI_len]
  have hkl : (markL l').length ≤ bs.length := by have := markL_len l'; rw [HLL.out] at this; exact this
  obtain ⟨L, hL⟩ : ∃ L, L = markL l' := ⟨_, rfl⟩
  rw [← hL]
  rw [← hL] at HC4 D4
  have HLM := Lib.hid hL
  have hLl : L.length ≤ bs.length := by rw [hL]; exact hkl
  have q1 : w4.cell? ⟨w.heap.size, 1, none⟩ = some (.slice A2 bs.length c2) := R4.out.cell 1
  have z4 : w.heap.size < w4.heap.size := R4.out.lt
  have HV := Lib.hid (show variesB bs k = L.any (srcB bs) by unfold variesB; rw [← HL.out, hL])
  have HLT := Lib.hid (show ∀ j ∈ L, j < bs.length from fun j hj => by rw [hL] at hj; have := isM_lt (markL_mem.1 hj); rw [HLL.out] at this; exact this)
  have D4' := Lib.hid (HD.out.below N4.out hm)
  clear hkl hL D4
  go_loopw [19] (fun i wr => vaRel bs L w4 i wr) (fun i _ => L.length - (intOf i).toNat)
  case atStart => exact ⟨0, Nat.zero_le _, rfl, NoneT.zero _ _, rfl⟩
  case round =>
    obtain ⟨t, ht, rfl, hn, rfl⟩ := hrel
    have HN := Lib.hid hn
    clear hn
    by_cases hlt : t < L.length
    · obtain ⟨b, off, z, rfl, hbm, hbs, hx, g⟩ := HC4.out.int_ (k := t) (by rw [natI_len]; exact hlt)
      rw [natI_get] at hx
      obtain ⟨j, hj, rfl⟩ := Option.map_eq_some_iff.1 hx
      have HJ := Lib.hid hj
      have hjl : j < bs.length := HLT.out j (List.mem_of_getElem? hj)
      have hji : (j : Int) < (bs.length : Int) := by omega
      have hti : (t : Int) < (L.length : Int) := by omega
      clear hx hj
      obtain ⟨b2, off2, kind, KA, args, cap, vn, ve, un, ue, hA, hbm2, hbs2, hx, g0, _, _, _, _, _, _, _⟩ := D4'.out.blk hjl
      dsimp only at hA hx
      subst hA
      have HX := Lib.hid hx
      clear hx
      by_cases k0 : kind = 0
      · subst k0
        have HS := Lib.hid (show srcB bs j = true by unfold srcB; rw [kind_of HX.out]; rfl)
        go_wp2_with fail
        go_ret
        exact ⟨ret_bool (by rw [HV.out]; exact (any_hit HJ.out HS.out).symm), N4.out⟩
      · by_cases k2 : kind = 2
        · subst k2
          have HS := Lib.hid (show srcB bs j = true by unfold srcB; rw [kind_of HX.out]; rfl)
          clear k0
          go_wp2_with fail
          go_ret
          exact ⟨ret_bool (by rw [HV.out]; exact (any_hit HJ.out HS.out).symm), N4.out⟩
        · have n0 : (kind == 0) = false := by simpa using k0
          have n2 : (kind == 2) = false := by simpa using k2
          have HS := Lib.hid (show srcB bs j = false by unfold srcB; rw [kind_of HX.out, n0, n2]; rfl)
          clear k0 k2
          go_wp2_with fail
          exact ⟨⟨t + 1, by omega, by go_num, HN.out.succ HJ.out HS.out, rfl⟩, by simp [intOf]; omega⟩
    · have e : (t : Int) = (L.length : Int) := by omega
      go_wp2_with fail
      go_ret
      exact ⟨ret_bool (by rw [HV.out]; exact (HN.out.all (by omega)).symm), N4.out⟩
def affO (d : Dg) : Bool := if dgE d = 0 then affB d.bs else false
def AffP (d : Dg) (w : World) (e : Ending) (w' : World) : Prop := e = .returned (.tuple #[.bool (affO d), errV (dgE d)]) ∧ Below w.heap.size w w'
def afRel (w : World) (vs : List Value) (bs : List Bk) (i : Value) (wr : World) : Prop := ∃ k : Nat, k ≤ bs.length ∧ i = .int .i64 (k : Int) ∧ NoAff bs k ∧ RowD wr w.heap.size vs 41 ∧ Below w.heap.size w wr
theorem dg_blk {ps : List Prt} {bs : List Bk} {os : List Int} {k : Nat} {b : Bk} (h : dgErr ps bs os = 0) (hb : bs[k]? = some b) : blkErr ps.length bs.length b = 0 :=
  firstErr_zero (pre_blk (pre_of h).2.1) _ (List.mem_map_of_mem (List.mem_of_getElem? hb))
theorem two_args {np nb : Nat} {b : Bk} (h : blkErr np nb b = 0) (hk : b.kind = 7) : ∃ z0 z1, b.args = [z0, z1] ∧ (0 ≤ z0 ∧ z0 < (nb : Int)) ∧ (0 ≤ z1 ∧ z1 < (nb : Int)) := by
  obtain ⟨_, h2, h3⟩ := blk_args h
  rw [hk] at h2 h3
  have e : arityM 7 = 2 := by decide
  have e2 : mostM np nb 7 = nb := rfl
  rw [e] at h2
  rw [e2] at h3
  match hb : b.args, h2, h3 with
  | [z0, z1], _, h3 => exact ⟨z0, z1, rfl, h3 z0 (by simp), h3 z1 (by simp)⟩
theorem Affine_any (d : Dg) (m : Nat) (w : World) (hm : m ≤ w.heap.size) (hd : DgAt w m d) (ht : TabAt w) :
    Calls Tryd.prog 30 #[d.val] w (AffP d w) := by
  have hl2 := hd.l2
  have HD := Lib.hid hd
  have HT := Lib.hid ht
  clear hd ht
  obtain ⟨A1, ps, c1, A2, bs, c2, A3, os, c3⟩ := d
  dsimp only at hl2
  simp only [Dg.val]
  have b0 := al_ w (.cells #[.slice A1 ps.length c1, .slice A2 bs.length c2, .slice A3 os.length c3] 41)
  have r0 := RowD.new_ w [.slice A1 ps.length c1, .slice A2 bs.length c2, .slice A3 os.length c3] 41
  have HB0 := Lib.hid b0
  have R0 := Lib.hid r0
  clear b0 r0
  obtain ⟨E, hE⟩ : ∃ E, dgErr ps bs os = E := ⟨_, rfl⟩
  have HE := Lib.hid hE
  clear hE
  go_enter Tryd.func30, Tryd.ntmps30
  go_wp2_with fail
  go_at_call 25
  refine (Check_any ⟨A1, ps, c1, A2, bs, c2, A3, os, c3⟩ m _ (by simp; omega) (HD.out.below HB0.out hm) (HT.out.below HB0.out HT.out.1)).mono ?_
  rintro e w1 ⟨rfl, hb1⟩
  dsimp only
  rw [HE.out]
  have R1 := Lib.hid (R0.out.call hb1)
  have N1 := Lib.hid (HB0.out.trans (hb1.mono HB0.out.size))
  have z1 : w.heap.size < w1.heap.size := R1.out.lt
  have q1 : w1.cell? ⟨w.heap.size, 1, none⟩ = some (.slice A2 bs.length c2) := R1.out.cell 1
  clear hb1
  by_cases he : E = 0
  · have HE0 := Lib.hid (HE.out.trans he)
    rw [he, errV_0]
    clear he
    have AFF : ∀ {b : Bool}, affB bs = b → (Value.tuple #[.bool (affO ⟨A1, ps, c1, A2, bs, c2, A3, os, c3⟩), errV (dgE ⟨A1, ps, c1, A2, bs, c2, A3, os, c3⟩)] = .tuple #[.bool b, .nilIface]) := fun {b} h => by
      have h1 : dgE ⟨A1, ps, c1, A2, bs, c2, A3, os, c3⟩ = 0 := HE0.out
      unfold affO
      rw [if_pos h1, h1, ← h]
      rfl
    have HOK := Lib.hid (dg_succ HE0.out)
    have HVI := Lib.hid (show ∀ z, z < bs.length → variesB bs z = isM (varyM bs) z from fun z hz => varies_is hz HOK.out)
    go_wp2_with fail
    go_loopw [15] (fun i wr => afRel w [.slice A1 ps.length c1, .slice A2 bs.length c2, .slice A3 os.length c3] bs i wr) (fun i _ => bs.length - (intOf i).toNat)
    case atStart => exact ⟨0, Nat.zero_le _, rfl, NoAff.zero _, R1.out, N1.out⟩
    case round =>
      as_aux_lemma =>
      clear q1 R1 N1 z1
      obtain ⟨k, hk, rfl, hn, hr, hb⟩ := hrel
      have HN := Lib.hid hn
      have HR := Lib.hid hr
      have q0 : wr.cell? ⟨w.heap.size, 0, none⟩ = some (.slice A1 ps.length c1) := HR.out.cell 0
      have q1 : wr.cell? ⟨w.heap.size, 1, none⟩ = some (.slice A2 bs.length c2) := HR.out.cell 1
      have q2 : wr.cell? ⟨w.heap.size, 2, none⟩ = some (.slice A3 os.length c3) := HR.out.cell 2
      have zr : w.heap.size < wr.heap.size := HR.out.lt
      clear hn hr
      by_cases hlt : k < bs.length
      · have HDR := Lib.hid (HD.out.below hb hm)
        obtain ⟨b, off, kind, B, args, cap, vn, ve, un, ue, hA2, hbm, hbs, hx, g0, g1, g2, g3, g4, g5, ha, hl⟩ := HDR.out.blk hlt
        dsimp only at hA2 hx
        subst hA2
        have HX := Lib.hid hx
        clear hx hl
        by_cases k8 : kind = 8
        · subst k8
          have HAF := Lib.hid (AFF (affB_hit hlt (show nonAff bs k = true by unfold nonAff; rw [kind_of HX.out]; rfl)))
          clear AFF ha
          go_wp2_with fail
          refine bodyPost_ret (v := .tuple #[.bool false, .nilIface]) (by simp [results, Tryd.results30, go_sem]) rfl ⟨by rw [HAF.out], ext_alloc hb _⟩
        · by_cases k9 : kind = 9
          · subst k9
            have HAF := Lib.hid (AFF (affB_hit hlt (show nonAff bs k = true by unfold nonAff; rw [kind_of HX.out]; rfl)))
            clear AFF ha
            go_wp2_with fail
            refine bodyPost_ret (v := .tuple #[.bool false, .nilIface]) (by simp [results, Tryd.results30, go_sem]) rfl ⟨by rw [HAF.out], ext_alloc hb _⟩
          · by_cases k10 : kind = 10
            · subst k10
              have HAF := Lib.hid (AFF (affB_hit hlt (show nonAff bs k = true by unfold nonAff; rw [kind_of HX.out]; rfl)))
              clear AFF ha
              go_wp2_with fail
              refine bodyPost_ret (v := .tuple #[.bool false, .nilIface]) (by simp [results, Tryd.results30, go_sem]) rfl ⟨by rw [HAF.out], ext_alloc hb _⟩
            · by_cases k11 : kind = 11
              · subst k11
                have HAF := Lib.hid (AFF (affB_hit hlt (show nonAff bs k = true by unfold nonAff; rw [kind_of HX.out]; rfl)))
                clear AFF ha
                go_wp2_with fail
                refine bodyPost_ret (v := .tuple #[.bool false, .nilIface]) (by simp [results, Tryd.results30, go_sem]) rfl ⟨by rw [HAF.out], ext_alloc hb _⟩
              · by_cases k7 : kind = 7
                · as_aux_lemma =>
                  subst k7
                  obtain ⟨z0, z1, hargs, hz0, hz1⟩ := two_args (dg_blk HE0.out HX.out) rfl
                  dsimp only at hargs
                  subst hargs
                  obtain ⟨z0, rfl⟩ := Int.eq_ofNat_of_zero_le hz0.1
                  obtain ⟨z1, rfl⟩ := Int.eq_ofNat_of_zero_le hz1.1
                  have hl0 : z0 < bs.length := by have := hz0.2; omega
                  have hl1 : z1 < bs.length := by have := hz1.2; omega
                  obtain ⟨ab, ao, y0, rfl, hab, hab2, hy0, gz0⟩ := CellsAt.int_ ha (k := 0) (by simp)
                  obtain ⟨ab', ao', y1, hA', _, _, hy1, gz1⟩ := CellsAt.int_ ha (k := 1) (by simp)
                  cases hA'
                  simp at hy0 hy1
                  subst hy0 hy1
                  rw [Nat.add_zero] at gz0
                  clear hz0 hz1 ha
                  have HDW := Lib.hid (HDR.out.below (al_ wr (.cells #[.int .i64 7, .slice (some ⟨ab, ao, none⟩) 2 cap, .int .i64 vn, .int .i64 ve, .int .i64 un, .int .i64 ue] 66)) (by have := hb.size; omega))
                  cases hv0 : variesB bs z0 with
                  | false =>
                    as_aux_lemma =>
                    have HV0 := Lib.hid hv0
                    clear hv0
                    have HNA := Lib.hid (show nonAff bs k = false by unfold nonAff; rw [kind_of HX.out, args_of HX.out]; show (false || (isM (varyM bs) z0 && isM (varyM bs) z1)) = false; rw [Bool.false_or, ← HVI.out z0 hl0, ← HVI.out z1 hl1, HV0.out]; rfl)
                    go_wp2_with fail
                    have HC0 : ∀ x : ExtW (wr.alloc (.cells #[.int .i64 7, .slice (some ⟨ab, ao, none⟩) 2 cap, .int .i64 vn, .int .i64 ve, .int .i64 un, .int .i64 ue] 66)) (wr.heap.size + 1), Calls Tryd.prog 62 #[.agg #[.slice A1 ps.length c1, .slice (some ⟨b, off, none⟩) bs.length c2, .slice A3 os.length c3], .int .i64 (z0 : Int)] x.val (fun e w' => e = .returned (.bool false) ∧ Below x.val.heap.size x.val w') := fun x => by
                      have h := varies_any ⟨A1, ps, c1, some ⟨b, off, none⟩, bs, c2, A3, os, c3⟩ z0 m x.val (by have := x.fits; omega) (HDW.out.below x.is (by omega)) HOK.out hl0
                      dsimp only [Dg.val] at h
                      rw [HV0.out] at h
                      exact h
                    have HCC0 := Lib.hid HC0
                    clear HC0
                    refine wp_region_qext (wr.heap.size + 1) (by simp) (by kernel_rfl) (by kernel_rfl) ?_
                    intro _
                    repeat (go_big_quiet_step (((go_at_call 62; exact qext_call (HCC0.out _)))))
                    refine wpQuiet_nil ?_
                    intro w5 hw'
                    obtain ⟨⟨_, hb5, hz5⟩, rfl⟩ := hw'
                    have HB5 := Lib.hid ((ext_alloc hb _).trans (hb5.mono (by have := hb.size; omega)))
                    have HR5 := Lib.hid ((HR.out.call (al_ _ _)).below hb5 (by omega))
                    clear hb5
                    go_wp2_with fail
                    exact ⟨⟨k + 1, by omega, by go_num, HN.out.succ HNA.out, HR5.out, HB5.out⟩, by simp [intOf]; omega⟩
                  | true =>
                    cases hv1 : variesB bs z1 with
                    | false =>
                      as_aux_lemma =>
                      have HV0 := Lib.hid hv0
                      have HV1 := Lib.hid hv1
                      clear hv0 hv1
                      have HNA := Lib.hid (show nonAff bs k = false by unfold nonAff; rw [kind_of HX.out, args_of HX.out]; show (false || (isM (varyM bs) z0 && isM (varyM bs) z1)) = false; rw [Bool.false_or, ← HVI.out z0 hl0, ← HVI.out z1 hl1, HV0.out, HV1.out]; rfl)
                      go_wp2_with fail
                      have HC0 : ∀ x : ExtW (wr.alloc (.cells #[.int .i64 7, .slice (some ⟨ab, ao, none⟩) 2 cap, .int .i64 vn, .int .i64 ve, .int .i64 un, .int .i64 ue] 66)) (wr.heap.size + 1), Calls Tryd.prog 62 #[.agg #[.slice A1 ps.length c1, .slice (some ⟨b, off, none⟩) bs.length c2, .slice A3 os.length c3], .int .i64 (z0 : Int)] x.val (fun e w' => e = .returned (.bool true) ∧ Below x.val.heap.size x.val w') := fun x => by
                        have h := varies_any ⟨A1, ps, c1, some ⟨b, off, none⟩, bs, c2, A3, os, c3⟩ z0 m x.val (by have := x.fits; omega) (HDW.out.below x.is (by omega)) HOK.out hl0
                        dsimp only [Dg.val] at h
                        rw [HV0.out] at h
                        exact h
                      have HCC0 := Lib.hid HC0
                      clear HC0
                      have HC1 : ∀ x : ExtW (wr.alloc (.cells #[.int .i64 7, .slice (some ⟨ab, ao, none⟩) 2 cap, .int .i64 vn, .int .i64 ve, .int .i64 un, .int .i64 ue] 66)) (wr.heap.size + 1), Calls Tryd.prog 62 #[.agg #[.slice A1 ps.length c1, .slice (some ⟨b, off, none⟩) bs.length c2, .slice A3 os.length c3], .int .i64 (z1 : Int)] x.val (fun e w' => e = .returned (.bool false) ∧ Below x.val.heap.size x.val w') := fun x => by
                        have h := varies_any ⟨A1, ps, c1, some ⟨b, off, none⟩, bs, c2, A3, os, c3⟩ z1 m x.val (by have := x.fits; omega) (HDW.out.below x.is (by omega)) HOK.out hl1
                        dsimp only [Dg.val] at h
                        rw [HV1.out] at h
                        exact h
                      have HCC1 := Lib.hid HC1
                      clear HC1
                      refine wp_region_qext (wr.heap.size + 1) (by simp) (by kernel_rfl) (by kernel_rfl) ?_
                      intro _
                      repeat (go_big_quiet_step ((first | (go_at_call 62; with_reducible exact qext_call (HCC0.out _)) | (go_at_call 62; with_reducible exact qext_call (HCC1.out _)))))
                      refine wpQuiet_nil ?_
                      intro w5 hw'
                      obtain ⟨⟨_, hb5, hz5⟩, rfl⟩ := hw'
                      have HB5 := Lib.hid ((ext_alloc hb _).trans (hb5.mono (by have := hb.size; omega)))
                      have HR5 := Lib.hid ((HR.out.call (al_ _ _)).below hb5 (by omega))
                      clear hb5
                      go_wp2_with fail
                      exact ⟨⟨k + 1, by omega, by go_num, HN.out.succ HNA.out, HR5.out, HB5.out⟩, by simp [intOf]; omega⟩
                    | true =>
                      as_aux_lemma =>
                      have HV0 := Lib.hid hv0
                      have HV1 := Lib.hid hv1
                      clear hv0 hv1
                      have HNA := Lib.hid (show nonAff bs k = true by unfold nonAff; rw [kind_of HX.out, args_of HX.out]; show (false || (isM (varyM bs) z0 && isM (varyM bs) z1)) = true; rw [Bool.false_or, ← HVI.out z0 hl0, ← HVI.out z1 hl1, HV0.out, HV1.out]; rfl)
                      go_wp2_with fail
                      have HC0 : ∀ x : ExtW (wr.alloc (.cells #[.int .i64 7, .slice (some ⟨ab, ao, none⟩) 2 cap, .int .i64 vn, .int .i64 ve, .int .i64 un, .int .i64 ue] 66)) (wr.heap.size + 1), Calls Tryd.prog 62 #[.agg #[.slice A1 ps.length c1, .slice (some ⟨b, off, none⟩) bs.length c2, .slice A3 os.length c3], .int .i64 (z0 : Int)] x.val (fun e w' => e = .returned (.bool true) ∧ Below x.val.heap.size x.val w') := fun x => by
                        have h := varies_any ⟨A1, ps, c1, some ⟨b, off, none⟩, bs, c2, A3, os, c3⟩ z0 m x.val (by have := x.fits; omega) (HDW.out.below x.is (by omega)) HOK.out hl0
                        dsimp only [Dg.val] at h
                        rw [HV0.out] at h
                        exact h
                      have HCC0 := Lib.hid HC0
                      clear HC0
                      have HC1 : ∀ x : ExtW (wr.alloc (.cells #[.int .i64 7, .slice (some ⟨ab, ao, none⟩) 2 cap, .int .i64 vn, .int .i64 ve, .int .i64 un, .int .i64 ue] 66)) (wr.heap.size + 1), Calls Tryd.prog 62 #[.agg #[.slice A1 ps.length c1, .slice (some ⟨b, off, none⟩) bs.length c2, .slice A3 os.length c3], .int .i64 (z1 : Int)] x.val (fun e w' => e = .returned (.bool true) ∧ Below x.val.heap.size x.val w') := fun x => by
                        have h := varies_any ⟨A1, ps, c1, some ⟨b, off, none⟩, bs, c2, A3, os, c3⟩ z1 m x.val (by have := x.fits; omega) (HDW.out.below x.is (by omega)) HOK.out hl1
                        dsimp only [Dg.val] at h
                        rw [HV1.out] at h
                        exact h
                      have HCC1 := Lib.hid HC1
                      clear HC1
                      refine wp_region_qext (wr.heap.size + 1) (by simp) (by kernel_rfl) (by kernel_rfl) ?_
                      intro _
                      repeat (go_big_quiet_step ((first | (go_at_call 62; with_reducible exact qext_call (HCC0.out _)) | (go_at_call 62; with_reducible exact qext_call (HCC1.out _)))))
                      refine wpQuiet_nil ?_
                      intro w5 hw'
                      obtain ⟨⟨_, hb5, hz5⟩, rfl⟩ := hw'
                      have HAF := Lib.hid (AFF (affB_hit hlt HNA.out))
                      have HB5 := Lib.hid ((ext_alloc hb _).trans (hb5.mono (by have := hb.size; omega)))
                      clear hb5 AFF
                      go_wp2_with fail
                      refine bodyPost_ret (v := .tuple #[.bool false, .nilIface]) (by simp [results, Tryd.results30, go_sem]) rfl ⟨by rw [HAF.out], HB5.out⟩
                · as_aux_lemma =>
                  have n8 : (kind == 8) = false := by simpa using k8
                  have n9 : (kind == 9) = false := by simpa using k9
                  have n10 : (kind == 10) = false := by simpa using k10
                  have n11 : (kind == 11) = false := by simpa using k11
                  have n7 : (kind == 7) = false := by simpa using k7
                  have HNA := Lib.hid (show nonAff bs k = false by unfold nonAff; rw [kind_of HX.out, n8, n9, n10, n11, n7]; rfl)
                  clear k7 k8 k9 k10 k11 ha
                  go_wp2_with fail
                  exact ⟨⟨k + 1, by omega, by go_num, HN.out.succ HNA.out, HR.out.call (al_ _ _), ext_alloc hb _⟩, by simp [intOf]; omega⟩
      · have e : k = bs.length := by omega
        subst e
        have HAF := Lib.hid (AFF (affB_all HN.out))
        clear AFF
        go_wp2_with fail
        refine bodyPost_ret (v := .tuple #[.bool true, .nilIface]) (by simp [results, Tryd.results30, go_sem]) rfl ⟨by rw [HAF.out], hb⟩
  · have AFF : affO ⟨A1, ps, c1, A2, bs, c2, A3, os, c3⟩ = false := if_neg (by show ¬ dgErr ps bs os = 0; rw [HE.out]; exact he)
    have hde : dgE ⟨A1, ps, c1, A2, bs, c2, A3, os, c3⟩ = E := HE.out
    have HAF := Lib.hid AFF
    have HDE := Lib.hid hde
    have HEN := Lib.hid (errV_n he)
    clear AFF hde he
    rw [HEN.out]
    go_wp2_with fail
    refine bodyPost_ret (v := .tuple #[.bool false, .iface 33 (.int .i64 E)]) (by simp [results, Tryd.results30, go_sem]) rfl ⟨by rw [HAF.out, HDE.out, HEN.out], N1.out⟩
end Go.Proofs.YtfooonellkgaeaaDoor
namespace Go.Proofs.YtfooonellkgaeaaDoor
open Go.RowKit
def vr1 (w : World) (vs : List Value) (n : Nat) (f : Nat → List Bool) (v : Value) (wr : World) : Prop := ∃ k : Nat, k ≤ n ∧ v = .int .i64 (k : Int) ∧ RowD wr (w.heap.size + 1) (bools (f k)) 4 ∧ RowD wr w.heap.size vs 41 ∧ Below w.heap.size w wr
def vr4 (w : World) (vs : List Value) (bs : List Bk) (v : Value) (wr : World) : Prop := ∃ k : Nat, k ≤ bs.length ∧ v = .int .i64 (k : Int) ∧ NoAff bs k ∧ RowD wr (w.heap.size + 1) (bools (varyM bs)) 4 ∧ RowD wr w.heap.size vs 41 ∧ Below w.heap.size w wr
end Go.Proofs.YtfooonellkgaeaaDoor
namespace Go.Proofs.YtfooonellkgaeaaDoor
open Go.RowKit
section
variable {bs : List Bk}
theorem srcB_z : srcB (bs.map Bk.z) = srcB bs := funext fun i => by unfold srcB; rw [kindAt_z]
theorem vStep_z : vStep (bs.map Bk.z) = vStep bs := funext fun m => funext fun i => by unfold vStep vT; rw [preds_z, srcB_z]
theorem vFold_z : vFold (bs.map Bk.z) = vFold bs := funext fun m => funext fun i => by unfold vFold; rw [vStep_z]
theorem vPass_z (m : List Bool) : ∀ k, vPass (bs.map Bk.z) m k = vPass bs m k
  | 0 => rfl
  | k + 1 => by
    show vFold (bs.map Bk.z) (vPass (bs.map Bk.z) m k) (bs.map Bk.z).length = vFold bs (vPass bs m k) bs.length
    rw [vPass_z m k, vFold_z, List.length_map]
theorem varyM_z : varyM (bs.map Bk.z) = varyM bs := by unfold varyM; rw [vPass_z, List.length_map]
theorem affB_z : affB (bs.map Bk.z) = affB bs := by
  have h : nonAff (bs.map Bk.z) = nonAff bs := funext fun i => by unfold nonAff; rw [kindAt_z, argsAt_z, varyM_z]
  unfold affB
  rw [h, List.length_map]
end
theorem affine_cv (t : Bool) {ps : List Prt} {bs : List Bk} {os : List Int} (hl : DgLen ps bs os) : CVF Tryd.prog TabAt 30 [aDg t ps bs os] [aB (if dgErr ps bs os = 0 then affB bs else false), aE (dgErr ps bs os)] := fun w S vs hg hlt ha => by
  obtain ⟨v, rfl, hv⟩ := one_arg ha
  obtain ⟨d, rfl, hd, rfl, hz, rfl, _, _⟩ := dg_open hlt hv hl
  refine (Affine_any d _ w (Nat.le_refl _) hd hg).mono fun e w' ⟨he, hb⟩ => ?_
  have e1 : dgErr d.ps d.bs d.os = dgErr d.ps bs d.os := by rw [← dgErr_z, hz, dgErr_z]
  have e2 : affB d.bs = affB bs := by rw [← affB_z, hz, affB_z]
  unfold affO dgE at he
  rw [e1, e2] at he
  exact ⟨_, he, two_rel (DRel.val rfl) (DRel.val (errV_one _)), hb⟩
theorem size_of_ok {ps : List Prt} {bs : List Bk} {os : List Int} (h : dgErr ps bs os = 0) : sizeOk ps bs os := by
  unfold dgErr at h
  by_cases hs : sizeOk ps bs os
  · exact hs
  · rw [if_pos hs] at h
    cases h
def lightB (ps : List Prt) (bs : List Bk) (os : List Int) : Bool := decide (ps.length ≤ 40 ∧ bs.length ≤ 80 ∧ os.length ≤ 40) && bs.all fun b => decide (b.args.length ≤ 10)
theorem light_cvT (t : Bool) (ps : List Prt) (bs : List Bk) (os : List Int) : CV Tryd.prog TabAt 39 [aDg t ps bs os] [aB (lightB ps bs os)] := by
  refine cvz Tryd.func39 Tryd.ntmps39 ?_
  by_cases cp : 40 < ps.length
  case pos =>
    repeat' (with_reducible first | apply qa | apply qb | apply qc | apply qd | apply qe | apply qf | apply qg | apply qh | apply qi | apply qj | apply qk | apply ql rfl | apply qm rfl | apply qn rfl | apply Je | (refine Tx 0 ?_; refine Jn xBo ?_; refine Ja ?_) | (refine Tx 1 ?_; refine Jo (xFa tf_Diagram0 tk_s_Port) ?_; refine Jo (xLd tk_s_Port) ?_; refine Jo (xLn ts_s_Port) ?_; refine Jo xGt ?_; refine Jm ?_; (first | iterate 4 refine Jd ?_ | (refine Jy (xFa tf_Diagram1 tk_s_Block) ?_; refine Jy (xLd tk_s_Block) ?_; refine Jy (xLn ts_s_Block) ?_; refine Jy xGt ?_)); refine Jo xPk ?_; refine Jm ?_; (first | iterate 4 refine Jd ?_ | (refine Jy (xFa tf_Diagram2 tk_s_int) ?_; refine Jy (xLd tk_s_int) ?_; refine Jy (xLn ts_s_int) ?_; refine Jy xGt ?_)); refine Jo xPk ?_) | (refine Tx 2 ?_; refine Ja ?_))
    exact ret_q rfl (.cons_ (rv_b rfl (by unfold lightB; rw [decide_eq_false (by omega)]; rfl)) .nil_)
  by_cases cb : 80 < bs.length
  case pos =>
    repeat' (with_reducible first | apply qa | apply qb | apply qc | apply qd | apply qe | apply qf | apply qg | apply qh | apply qi | apply qj | apply qk | apply ql rfl | apply qm rfl | apply qn rfl | apply Je | (refine Tx 0 ?_; refine Jn xBo ?_; refine Ja ?_) | (refine Tx 1 ?_; refine Jo (xFa tf_Diagram0 tk_s_Port) ?_; refine Jo (xLd tk_s_Port) ?_; refine Jo (xLn ts_s_Port) ?_; refine Jo xGt ?_; refine Jm ?_; (first | iterate 4 refine Jd ?_ | (refine Jy (xFa tf_Diagram1 tk_s_Block) ?_; refine Jy (xLd tk_s_Block) ?_; refine Jy (xLn ts_s_Block) ?_; refine Jy xGt ?_)); refine Jo xPk ?_; refine Jm ?_; (first | iterate 4 refine Jd ?_ | (refine Jy (xFa tf_Diagram2 tk_s_int) ?_; refine Jy (xLd tk_s_int) ?_; refine Jy (xLn ts_s_int) ?_; refine Jy xGt ?_)); refine Jo xPk ?_) | (refine Tx 2 ?_; refine Ja ?_))
    exact ret_q rfl (.cons_ (rv_b rfl (by unfold lightB; rw [decide_eq_false (by omega)]; rfl)) .nil_)
  by_cases co : 40 < os.length
  case pos =>
    repeat' (with_reducible first | apply qa | apply qb | apply qc | apply qd | apply qe | apply qf | apply qg | apply qh | apply qi | apply qj | apply qk | apply ql rfl | apply qm rfl | apply qn rfl | apply Je | (refine Tx 0 ?_; refine Jn xBo ?_; refine Ja ?_) | (refine Tx 1 ?_; refine Jo (xFa tf_Diagram0 tk_s_Port) ?_; refine Jo (xLd tk_s_Port) ?_; refine Jo (xLn ts_s_Port) ?_; refine Jo xGt ?_; refine Jm ?_; (first | iterate 4 refine Jd ?_ | (refine Jy (xFa tf_Diagram1 tk_s_Block) ?_; refine Jy (xLd tk_s_Block) ?_; refine Jy (xLn ts_s_Block) ?_; refine Jy xGt ?_)); refine Jo xPk ?_; refine Jm ?_; (first | iterate 4 refine Jd ?_ | (refine Jy (xFa tf_Diagram2 tk_s_int) ?_; refine Jy (xLd tk_s_int) ?_; refine Jy (xLn ts_s_int) ?_; refine Jy xGt ?_)); refine Jo xPk ?_) | (refine Tx 2 ?_; refine Ja ?_))
    exact ret_q rfl (.cons_ (rv_b rfl (by unfold lightB; rw [decide_eq_false (by omega)]; rfl)) .nil_)
  repeat' (with_reducible first | apply qa | apply qb | apply qc | apply qd | apply qe | apply qf | apply qg | apply qh | apply qi | apply qj | apply qk | apply ql rfl | apply qm rfl | apply qn rfl | apply Je | (refine Tx 0 ?_; refine Jn xBo ?_; refine Ja ?_) | (refine Tx 1 ?_; refine Jo (xFa tf_Diagram0 tk_s_Port) ?_; refine Jo (xLd tk_s_Port) ?_; refine Jo (xLn ts_s_Port) ?_; refine Jo xGt ?_; refine Jm ?_; (first | iterate 4 refine Jd ?_ | (refine Jy (xFa tf_Diagram1 tk_s_Block) ?_; refine Jy (xLd tk_s_Block) ?_; refine Jy (xLn ts_s_Block) ?_; refine Jy xGt ?_)); refine Jo xPk ?_; refine Jm ?_; (first | iterate 4 refine Jd ?_ | (refine Jy (xFa tf_Diagram2 tk_s_int) ?_; refine Jy (xLd tk_s_int) ?_; refine Jy (xLn ts_s_int) ?_; refine Jy xGt ?_)); refine Jo xPk ?_) | (refine Tx 3 ?_; refine Jo (xFa tf_Diagram1 tk_s_Block) ?_; refine Jo (xLd tk_s_Block) ?_; refine Jo (xLn ts_s_Block) ?_; refine Jm ?_))
  refine cw_wk (F' := ofL [(1, vr 0), (22, vd (rowB t bs)), (23, vi bs.length), (24, vi ((0 : Nat)))]) (H' := [.box 41 [.d (rowP t ps), .d (rowB t bs), .d (rowI t os)]]) (wk_go _ 1 ?_ ?_ ?_) ?_
  · rfl
  · exact mB rfl rfl
  · exact ⟨bel_lit rfl, trivial⟩
  refine cw_loopW (fun n Fr H => ∃ k : Nat, k ≤ bs.length ∧ n = bs.length - k ∧ (bs.take k).all (fun b : Bk => decide (b.args.length ≤ 10)) = true ∧ Fr = ofL [(1, vr 0), (22, vd (rowB t bs)), (23, vi bs.length), (24, vi ((k : Nat)))] ∧ H = [.box 41 [.d (rowP t ps), .d (rowB t bs), .d (rowI t os)]]) (n0 := bs.length) ⟨0, Nat.zero_le _, rfl, rfl, rfl, rfl⟩ ?_
  rintro n Fr H ⟨k, hk, rfl, hall, rfl, rfl⟩
  by_cases hlt : k < bs.length
  case pos =>
    obtain ⟨y, hy⟩ : ∃ y, bs[k]? = some y := ⟨_, List.getElem?_eq_getElem hlt⟩
    by_cases hy10 : y.args.length ≤ 10
    case pos =>
      repeat' (with_reducible first | apply qa | apply qb | apply qc | apply qd | apply qe | apply qf | apply qg | apply qh | apply qi | apply qj | apply qk | apply ql rfl | apply qm rfl | apply qn rfl | apply Je | (refine Tx 4 ?_; refine Jo xLt ?_) | (refine Tx 5 ?_; refine Jo (xIr ts_s_Block (bk_at hy)) ?_; refine Jo (xLa tk_Block) ?_; refine Jn (xAl tz_Block) ?_; refine Js (xSk tk_Block) ?_) | (refine Tx 6 ?_; refine Jo (xFa tf_Block1 tk_s_int) ?_; refine Jo (xLd tk_s_int) ?_; refine Jo (xLn ts_s_int) ?_; refine Jo xGt ?_) | (refine Tx 8 ?_; refine Jo xAd ?_; refine Jm ?_))
      refine ⟨_, _, wk_go _ 1 ?_ ?_ ?_, _, ?_, k + 1, by omega, rfl, all_take hy hall (decide_eq_true hy10), rfl, rfl⟩
      · rfl
      · exact mB rfl rfl
      · exact ⟨bel_lit rfl, trivial⟩
      · omega
    case neg =>
      repeat' (with_reducible first | apply qa | apply qb | apply qc | apply qd | apply qe | apply qf | apply qg | apply qh | apply qi | apply qj | apply qk | apply ql rfl | apply qm rfl | apply qn rfl | apply Je | (refine Tx 4 ?_; refine Jo xLt ?_) | (refine Tx 5 ?_; refine Jo (xIr ts_s_Block (bk_at hy)) ?_; refine Jo (xLa tk_Block) ?_; refine Jn (xAl tz_Block) ?_; refine Js (xSk tk_Block) ?_) | (refine Tx 6 ?_; refine Jo (xFa tf_Block1 tk_s_int) ?_; refine Jo (xLd tk_s_int) ?_; refine Jo (xLn ts_s_int) ?_; refine Jo xGt ?_) | (refine Tx 7 ?_; refine Ja ?_))
      exact ret_q rfl (.cons_ (rv_b rfl (by unfold lightB; rw [show bs.all (fun b : Bk => decide (b.args.length ≤ 10)) = false from List.all_eq_false.2 ⟨y, List.mem_of_getElem? hy, by rw [decide_eq_false hy10]; exact Bool.false_ne_true⟩, Bool.and_false])) .nil_)
  obtain rfl : k = bs.length := by omega
  rw [List.take_length] at hall
  repeat' (with_reducible first | apply qa | apply qb | apply qc | apply qd | apply qe | apply qf | apply qg | apply qh | apply qi | apply qj | apply qk | apply ql rfl | apply qm rfl | apply qn rfl | apply Je | (refine Tx 4 ?_; refine Jo xLt ?_) | (refine Tx 9 ?_; refine Ja ?_))
  exact ret_q rfl (.cons_ (rv_b rfl (by unfold lightB; rw [hall, decide_eq_true (by omega)]; rfl)) .nil_)
theorem light_len {ps : List Prt} {bs : List Bk} {os : List Int} (h : lightB ps bs os = true) : DgLen ps bs os ∧ bs.length ≤ 80 := by
  unfold lightB at h
  rw [Bool.and_eq_true] at h
  have h1 := of_decide_eq_true h.1
  exact ⟨⟨by omega, by omega, by omega, fun b hb => by have := of_decide_eq_true (List.all_eq_true.1 h.2 b hb); omega⟩, h1.2.1⟩
theorem bis_cv (n k : Int) : CVF Tryd.prog TabAt 11 [aE n, aI k] [aB (isB n k)] := fun w S vs hg hlt ha => by
  obtain ⟨v, vs', rfl, h1, ha⟩ := ha.uncons
  obtain ⟨u, hu, h2⟩ := one_arg ha
  subst hu
  cases h1
  cases h2
  refine (is_any n k w).mono fun r w' ⟨he, hw⟩ => ?_
  subst hw
  exact ⟨_, he, DRel.val rfl, Below.refl _ _⟩
theorem bclip_cv (x lo hi : Int) : CVF Tryd.prog TabAt 54 [aI x, aI lo, aI hi] [aI (clipI x lo hi)] := fun w S vs hg hlt ha => by
  obtain ⟨v, vs', rfl, q1, ha⟩ := ha.uncons
  obtain ⟨v2, vs', rfl, q2, ha⟩ := ha.uncons
  obtain ⟨u, hu, q3⟩ := one_arg ha
  subst hu
  cases q1
  cases q2
  cases q3
  refine (bclip_any x lo hi w).mono fun r w' ⟨he, hw⟩ => ?_
  subst hw
  exact ⟨_, he, DRel.val rfl, Below.refl _ _⟩
def prtD : Prt := ⟨0, 0, 0⟩
def inpV (ps : List Prt) (inn : List Int) (n : Nat) : List Int := (List.range n).map fun i => clipI (inn[i]?.getD 0) (ps[i]?.getD prtD).lo (ps[i]?.getD prtD).hi
theorem inpV_len (ps : List Prt) (inn : List Int) (k : Nat) : (inpV ps inn k).length ≤ k := by simp [inpV]
theorem inpV_step {ps : List Prt} {inn : List Int} {k : Nat} {p : Prt} {z : Int} (hp : ps[k]? = some p) (hz : inn[k]?.getD 0 = z) : inpV ps inn (k + 1) = inpV ps inn k ++ [clipI z p.lo p.hi] := by
  unfold inpV
  rw [List.range_succ, List.map_append]
  simp [hp, hz]
theorem inp_len (ps : List Prt) (inn : List Int) : (inpV ps inn ps.length).length = ps.length := by simp [inpV]
def CVO (P : Program) (G : World → Prop) (f : FuncId) (args : List A) (ty : TypeId) (s n : Nat) (xs : List Value) : Prop :=
  ∀ (w : World) (S : Sets) (vs : List Value), G w → (∀ t b, S t b → b < w.heap.size) → LRel (ARel w S) args vs →
    Calls P f vs.toArray w fun e w' => ∃ v, e = .returned v ∧ (Et.row v ty s n xs).at_ w' w.heap.size ∧ v.oneCell' = true ∧ Below w.heap.size w w'
theorem valsC_eq {m : Mm} : ∀ {xs ys : List Value}, LRel (CRel m) (valsC xs) ys → ys = xs
  | [], ys, h => h.unnil
  | x :: xs, ys, h => by
    have h : LRel (CRel m) (C.d (.val x) :: valsC xs) ys := h
    obtain ⟨y, ys', rfl, h1, h2⟩ := h.uncons
    have h1 : DRel m.w m.S (.val x) y := h1
    cases h1
    rw [valsC_eq h2]
theorem cvo_of {P : Program} {G : World → Prop} (hG : ∀ w w', Below w.heap.size w w' → G w → G w') {f : FuncId} {fn : Func} {c : Code} {N : Nat} {args : List A} {ty : TypeId} {s n : Nat} {xs : List Value} (hf : P.funcs[f]? = some fn) (hb : fn.body = some c) (hN : fn.ntmps = N) (ha : args.length ≤ N)
    (h : CW P G N c (F0 args) [] (fun e F H => (e = .ret ∨ e = .normal) ∧ ∃ t id, fn.results = #[.tmp t] ∧ F t = .one (.own id n) ∧ H[id]? = some (.row ty s n (valsC xs)))) : CVO P G f args ty s n xs := by
  intro w S vs hg hlt hargs
  refine calls_of_wp hf hb ?_
  refine wp_mono (h w.heap.size w ⟨S, []⟩ _ ⟨w, S, [], fun _ => none⟩ (fun w' hb' => hG w w' hb' hg) rfl (st_start hN ha hlt hargs)) fun e a' w' ⟨F', m', hw, hs, hret⟩ => ?_
  subst hw
  obtain ⟨he, t, id, hr, hF, hH⟩ := hret
  have hx := hs.frame t
  rw [hF] at hx
  obtain ⟨hone, ob, hob, _, hk⟩ : CRel m' (.own id n) (a'.tmps.getD t undef) := hx
  rw [hH] at hob
  cases hob
  obtain ⟨e', hE, hv⟩ := hk rfl
  obtain ⟨hat, ob2, hob2, hrel⟩ := hs.cx.each id e' hE
  rw [hH] at hob2
  cases hob2
  cases e' with
  | box g vs t => exact hrel.elim
  | row v' ty' s' n' xs' =>
    obtain ⟨rfl, rfl, rfl, hl⟩ := hrel
    obtain rfl := valsC_eq hl
    have hv : a'.tmps.getD t undef = v' := hv
    rw [hv] at hone
    have hrun : (results fn a'.tmps).run P m'.w = .ok v' m'.w := by
      have h1 : (fn.results.mapM (resF a'.tmps)).run P m'.w = .ok #[v'] m'.w := by
        rw [hr, ← Array.toArray_toList (xs := #[ResultVar.tmp t]), List.mapM_toArray, map_eq_pure_bind, Sem.run_bind]
        simp [List.mapM_cons, resF, hv, Sem.run_bind]
      have hb' : ∀ (s : Sem (Array Value)) (k : Array Value → Sem Value), (s.bind k).run P m'.w = (s.run P m'.w).andThen fun a w => (k a).run P w := fun s k => Sem.run_bind (x := s) (f := k) ..
      rw [results_is, hb', h1]
      rfl
    rcases he with rfl | rfl
    · exact ⟨hs.defers, v', hrun, v', rfl, hat, hone, hs.below⟩
    · exact ⟨hs.defers, v', hrun, v', rfl, hat, hone, hs.below⟩
section
variable {P : Program} {G : World → Prop} {o : Oper} {F : Frm} {H : List Ob}
theorem ok_callO {f : FuncId} {fn : Func} {c : Code} {xs : Array Operand} {ts : Array TypeId} (ho : o.op = .call { callee := .value (.func f), args := xs, argTypes := ts })
    (hf : P.funcs[f]? = some fn) (hn : (fn.name == "runtime.NumGoroutine") = false) (hb : fn.body = some c) {args : List A} {ty : TypeId} {s n : Nat} {zs : List Value} (hall : zs.all (·.oneCell') = true) (h : CVO P G f args ty s n zs) (ha : LRel (fun x y => XExp true H (F.ev x) y) xs.toList args) :
    OpOk P G o F H (.one (.own H.length n)) [.row ty s n (valsC zs)] := by
  intro b0 m a hp hx hg hb0 hE hor K Q hK
  have hp0 : H <+: m.H := (List.prefix_append _ _).trans hp
  have hxs : ∀ x ∈ xs.toList, XRel m (F.ev x) (a.eval x) := fun x hm => ev_rel hor (by
    rw [ho]
    simp only [Op.operands, Call.operands, Array.toList_append, List.mem_append]
    exact .inr hm)
  let Sx : Sets := fun t b => m.S t b ∨ (t = true ∧ ∃ id e, m.E id = some e ∧ e.own = some b)
  have hcalls := h m.w Sx (xs.toList.map a.eval) hg (fun t b hb => by
    rcases hb with hb | ⟨_, id, e, he, hown⟩
    · exact hx.lt t b hb
    · exact (Et.lt (hx.each id e he).1 hown).2) ⟨by rw [List.length_map]; exact ha.1.symm, fun j y v hy hv => by
      simp only [List.getElem?_map, Option.map_eq_some_iff] at hv
      obtain ⟨x, hxj, rfl⟩ := hv
      exact XExp.rel hx (fun b hb => .inl hb) (fun _ b hb => .inl hb) (fun id e g he hg => .inr ⟨rfl, id, e, he, hg⟩) ((ha.2 j x y hxj hy).pre hp0) (hxs x (List.mem_of_getElem? hxj))⟩
  unfold Oper.wp execOp
  simp only [ho, resolve, Act.eval, Deferred.ofValue, Sem.run_bind, Sem.run_pure, Result.andThen_ok, invoke]
  rw [run_enter hf hn hb]
  rw [Oper.upon_enter]
  have he : ((#[] : Array Value) ++ xs.map a.eval ++ #[]) = (xs.toList.map a.eval).toArray := Array.ext' (by simp)
  simp only [he]
  refine hcalls.mono fun e w' ⟨v, hev, hat, hone, hbel⟩ => ?_
  subst hev
  have hle := plus_le (es := [Et.row v ty s n zs]) (n := H.length) hbel hx.lt (fun k hk => hE k (by simpa using hk))
  have hobs : m.H[H.length]? = some (.row ty s n (valsC zs)) := getElem?_pre hp (by simp)
  have hEe : (m.plus w' H.length [Et.row v ty s n zs]).E H.length = some (Et.row v ty s n zs) := by
    show (if H.length ≤ H.length ∧ H.length < H.length + [Et.row v ty s n zs].length then [Et.row v ty s n zs][H.length - H.length]? else _) = some _
    rw [if_pos (by simp)]
    simp
  refine hK v w' [Et.row v ty s n zs] ⟨rfl, hbel, fun k e' hk => ?_, List.pairwise_singleton _ _⟩ ?_
  · rcases k with _ | k
    · simp only [List.getElem?_cons_zero, Option.some.injEq] at hk
      subst hk
      exact ⟨⟨hat.1, hat.2.imp id fun ⟨g, cap, cur, e, hb, r⟩ => ⟨g, cap, cur, e, Nat.le_trans hb0 hb, r⟩⟩, fun g hg' => (Et.lt hat hg').1, _, rfl, rfl, rfl, rfl, valsC_rel hall⟩
    · simp at hk
  · exact ⟨hone, _, hobs, (fun n1 n2 h1 h2 => by cases h1; cases h2; exact Nat.le_refl _), fun _ => ⟨_, hEe, rfl⟩⟩
theorem ok_makeD {t e : TypeId} {x y : Operand} {z : Value} {s by_ n : Nat} {k k' : IntKind} (ho : o.op = .makeSlice t x y) (hx : F.ev x = .one (.d (.val (.int k (n : Int))))) (hy : F.ev y = .one (.d (.val (.int k' (n : Int))))) (ht : TyS P t e s) (hz : TyZ P e z s by_) (hn : n ≤ 1000000) (hby : by_ ≤ 1000) (h1 : z.cells.toList.all (·.oneCell') = true) (hs1 : 0 < s) :
    OpOk P G o F H (.one (.d (.row false s n ((madeCells z.cells (n * s)).toList.map D.val)))) [] := by
  intro b0 m a hp hcx hg hb0 _ hor K Q hK
  have ex := val_of (m := m) (v := a.eval x) (by rw [← hx]; exact ev_rel hor (by rw [ho]; simp [Op.operands]))
  have ey := val_of (m := m) (v := a.eval y) (by rw [← hy]; exact ev_rel hor (by rw [ho]; simp [Op.operands]))
  obtain ⟨i, hi, hi2⟩ := Option.map_eq_some_iff.1 hz.h
  simp only [Prod.mk.injEq] at hi2
  have hb1 : (i.bytes : Int) * (n : Int) ≤ 281474976710656 := by
    have : i.bytes * n ≤ 1000 * 1000000 := Nat.mul_le_mul (by omega) hn
    have h2 : ((i.bytes * n : Nat) : Int) ≤ 281474976710656 := by omega
    rwa [Int.natCast_mul] at h2
  have hrun := run_make (P := P) m.w t e i z ht.h hi hi2.1 k k' (n : Int) (n : Int) (by omega) (Int.le_refl _) hb1 (by omega)
  rw [hi2.2.1, Int.toNat_natCast] at hrun
  have hexec : (execOp a.eval o).run P m.w = .ok (.value (.slice (some ⟨m.w.heap.size, 0, none⟩) n n)) (m.w.alloc (.cells (madeCells z.cells (n * s)) e)) := by
    unfold execOp
    simp only [ho, ex, ey]
    rw [Sem.run_bind, hrun]
    rfl
  have hbel : Below m.w.heap.size m.w (m.w.alloc (.cells (madeCells z.cells (n * s)) e)) := (Below.refl _ _).alloc (Nat.le_refl _) _
  unfold Oper.wp
  rw [hexec]
  refine hK _ _ [] ⟨rfl, hbel, fun k e hk => by simp at hk, List.Pairwise.nil⟩ ?_
  have hlen : (madeCells z.cells (n * s)).toList.length = n * s := by simp [size_madeCells]
  refine DRel.row (madeCells z.cells (n * s)).toList (Nat.le_refl _) (fun h => by cases h) (by rw [List.length_map, hlen]) (List.length_map ..) (fun _ => ⟨_, 0, rfl, .inr ⟨rfl, Nat.le_refl _, (Array.getElem?_eq_some_iff.1 (heap_alloc_new m.w _)).1, fun e he => by simp at he⟩, fun j v hj => ?_⟩) fun j u v hu hv => ?_
  · show (m.w.alloc (.cells (madeCells z.cells (n * s)) e)).cell? ⟨m.w.heap.size, 0 + j, none⟩ = some v
    rw [Nat.zero_add, cell_of_row _ _ j _ _ (0, 0) (heap_alloc_new m.w _)]
    simpa using hj
  · rw [List.getElem?_map, hv, Option.map_some, Option.some.injEq] at hu
    subst hu
    refine DRel.val ?_
    have hm := List.mem_of_getElem? hv
    unfold madeCells at hm
    simp only [Array.toList_map, List.mem_map] at hm
    obtain ⟨q, hq, rfl⟩ := hm
    have hs : 0 < z.cells.size := by rw [hz.c]; exact hs1
    have hlt : q % z.cells.size < z.cells.size := Nat.mod_lt _ hs
    have h2 : z.cells[q % z.cells.size]! = z.cells[q % z.cells.size] := by simp [hlt]
    rw [h2]
    exact List.all_eq_true.1 h1 _ (by simp)
end
theorem valsC_int (xs : List Int) : valsC (xs.map fun z => .int .i64 z) = cI xs := by
  unfold valsC cI
  rw [List.map_map]
  rfl
theorem fit_cvo (t u : Bool) {ps : List Prt} {bs : List Bk} {os : List Int} (inn : List Int) (hl : DgLen ps bs os) (h2 : inn.length ≤ 1000000) : CVO Tryd.prog TabAt 27 [aDg t ps bs os, .one (rowI u inn)] 3 1 (inpV ps inn ps.length).length ((inpV ps inn ps.length).map fun z => .int .i64 z) := by
  refine cvo_of tab_G Tryd.func27 rfl Tryd.ntmps27 (Nat.le_of_ble_eq_true rfl) ?_
  have hl1 := hl.l1
  repeat' (with_reducible first | apply qa | apply qb | apply qc | apply qd | apply qe | apply qf | apply qg | apply qh | apply qi | apply qj | apply qk | apply ql rfl | apply qm rfl | apply qn rfl | apply Je | (refine Tx 0 ?_; refine Jn xBo ?_; refine Ja ?_) | (refine Tx 1 ?_; refine Ja ?_) | (refine Tx 2 ?_; refine Jo (xFa tf_Diagram0 tk_s_Port) ?_; refine Jo (xLd tk_s_Port) ?_; refine Jo (xLn ts_s_Port) ?_; refine Jm ?_))
  refine cw_wk (wk_nil 5 3 1 rfl) ?_
  refine cw_wk (F' := ofL [(1, vd (rowI u inn)), (2, vr 0), (5, vo 1 ((inpV ps inn 0).length)), (10, vd (rowP t ps)), (11, vi ps.length), (12, vi ((0 : Nat)))]) (H' := [.box 41 [.d (rowP t ps), .d (rowB t bs), .d (rowI t os)], .row 3 1 (inpV ps inn (0)).length (cI (inpV ps inn (0)))]) (wk_go _ 2 ?_ ?_ ?_) ?_
  · rfl
  · exact mB rfl rfl
  · exact ⟨bel_lit rfl, bel_cI, trivial⟩
  refine cw_loopW (fun n Fr H => ∃ k : Nat, k ≤ ps.length ∧ n = ps.length - k ∧ Fr = ofL [(1, vd (rowI u inn)), (2, vr 0), (5, vo 1 ((inpV ps inn k).length)), (10, vd (rowP t ps)), (11, vi ps.length), (12, vi ((k : Nat)))] ∧ H = [.box 41 [.d (rowP t ps), .d (rowB t bs), .d (rowI t os)], .row 3 1 (inpV ps inn (k)).length (cI (inpV ps inn (k)))]) (n0 := ps.length) ⟨0, Nat.zero_le _, rfl, rfl, rfl⟩ ?_
  rintro n Fr H ⟨k, hk, rfl, rfl, rfl⟩
  by_cases hlt : k < ps.length
  case pos =>
    obtain ⟨p, hp⟩ : ∃ p, ps[k]? = some p := ⟨_, List.getElem?_eq_getElem hlt⟩
    have hol : (inpV ps inn (k)).length ≤ k := inpV_len _ _ _
    by_cases hki : k < inn.length
    case pos =>
      obtain ⟨z, hz⟩ : ∃ z, inn[k]? = some z := ⟨_, List.getElem?_eq_getElem hki⟩
      have hap : (inpV ps inn (k)) ++ [clipI z p.lo p.hi] = (inpV ps inn (k + 1)) := (inpV_step hp (by rw [hz]; rfl)).symm
      have hap2 : (inpV ps inn (k)).length + 1 = (inpV ps inn (k + 1)).length := by rw [← hap]; simp
      have BC := bclip_cv z p.lo p.hi
      repeat' (with_reducible first | apply qa | apply qb | apply qc | apply qd | apply qe | apply qf | apply qg | apply qh | apply qi | apply qj | apply qk | apply ql rfl | apply qm rfl | apply qn rfl | apply Je | (refine Tx 3 ?_; refine Jo xLt ?_) | (refine Tx 4 ?_; refine Jm ?_; refine Jo (xIr ts_s_Port (prt_at hp)) ?_; refine Jo (xLa tk_Port) ?_; refine Jn (xAl tz_Port) ?_; refine Ja ?_; refine Js (xSk tk_Port) ?_) | (refine Tx 5 ?_; refine Ja ?_) | (refine Tx 6 ?_; refine Jm ?_; refine Jm ?_; refine Jo (xLn ts_s_int) ?_; refine Jo xLt ?_) | (refine Tx 7 ?_; refine Jm ?_; refine Jm ?_; refine Jo (xIr ts_s_int (int_at hz)) ?_; refine Jo (xLd tk_int) ?_; refine Ja ?_) | (refine Tx 8 ?_; refine Jm ?_; refine Jm ?_; refine Jo (xFa tf_Port0 tk_int) ?_; refine Jo (xLd tk_int) ?_; refine Jo (xFa tf_Port1 tk_int) ?_; refine Jo (xLd tk_int) ?_; refine Jo (xCl Tryd.func54 (BC.cv)) ?_; refine Jn (by exact ok_build1 rfl ts_s_int tz_int rfl rfl (by decide) (by decide)) ?_; refine Jt (by exact to_apI rfl rfl rfl rfl rfl rfl ts_s_int tz_int (by omega) (by decide) hap hap2) ?_; refine Ja ?_) | (refine Tx 9 ?_; refine Jo xAd ?_; refine Jm ?_))
      refine ⟨_, _, wk_go _ 2 ?_ ?_ ?_, _, ?_, k + 1, by omega, rfl, rfl, rfl⟩
      · rfl
      · exact mB rfl rfl
      · exact ⟨bel_lit rfl, bel_cI, trivial⟩
      · omega
    case neg =>
      have hap : (inpV ps inn (k)) ++ [clipI 0 p.lo p.hi] = (inpV ps inn (k + 1)) := (inpV_step hp (by rw [List.getElem?_eq_none (by omega)]; rfl)).symm
      have hap2 : (inpV ps inn (k)).length + 1 = (inpV ps inn (k + 1)).length := by rw [← hap]; simp
      have BC := bclip_cv 0 p.lo p.hi
      repeat' (with_reducible first | apply qa | apply qb | apply qc | apply qd | apply qe | apply qf | apply qg | apply qh | apply qi | apply qj | apply qk | apply ql rfl | apply qm rfl | apply qn rfl | apply Je | (refine Tx 3 ?_; refine Jo xLt ?_) | (refine Tx 4 ?_; refine Jm ?_; refine Jo (xIr ts_s_Port (prt_at hp)) ?_; refine Jo (xLa tk_Port) ?_; refine Jn (xAl tz_Port) ?_; refine Ja ?_; refine Js (xSk tk_Port) ?_) | (refine Tx 5 ?_; refine Ja ?_) | (refine Tx 6 ?_; refine Jm ?_; refine Jm ?_; refine Jo (xLn ts_s_int) ?_; refine Jo xLt ?_) | (refine Tx 8 ?_; refine Jm ?_; refine Jm ?_; refine Jo (xFa tf_Port0 tk_int) ?_; refine Jo (xLd tk_int) ?_; refine Jo (xFa tf_Port1 tk_int) ?_; refine Jo (xLd tk_int) ?_; refine Jo (xCl Tryd.func54 (BC.cv)) ?_; refine Jn (by exact ok_build1 rfl ts_s_int tz_int rfl rfl (by decide) (by decide)) ?_; refine Jt (by exact to_apI rfl rfl rfl rfl rfl rfl ts_s_int tz_int (by omega) (by decide) hap hap2) ?_; refine Ja ?_) | (refine Tx 9 ?_; refine Jo xAd ?_; refine Jm ?_))
      refine ⟨_, _, wk_go _ 2 ?_ ?_ ?_, _, ?_, k + 1, by omega, rfl, rfl, rfl⟩
      · rfl
      · exact mB rfl rfl
      · exact ⟨bel_lit rfl, bel_cI, trivial⟩
      · omega
  obtain rfl : k = ps.length := by omega
  clear hlt hk
  repeat' (with_reducible first | apply qa | apply qb | apply qc | apply qd | apply qe | apply qf | apply qg | apply qh | apply qi | apply qj | apply qk | apply ql rfl | apply qm rfl | apply qn rfl | apply Je | (refine Tx 3 ?_; refine Jo xLt ?_) | (refine Tx 10 ?_; refine Jm ?_; refine Ja ?_))
  exact ⟨.inl rfl, 4, 1, by with_unfolding_all exact rfl, by with_unfolding_all exact rfl, by rw [valsC_int]; with_unfolding_all exact rfl⟩
structure HasB (vs : List (Option (Int × Nat))) (D : Nat → Prop) (B : Bool) : Prop where
  at_ : ∀ i, D i → ∃ p, vs[i]? = some (some p) ∧ Sm p 32000 65536 ∧ (longP p = true → B = true)
def sameB (r s : Rv) : Bool := decide (r.nb = s.nb ∧ r.den = s.den ∧ r.ws = s.ws)
def LenOk (l : List (Int × Nat)) : Prop := ∀ p ∈ l, (canon p.1.natAbs).length ≤ 1000000
def exP : List Prt := [⟨-8, 8, 0⟩]
def exB : List Bk := [⟨0, none, [0], 0, 0, 0, 0, 0⟩, ⟨3, none, [0, 2], 0, 0, 0, 0, 0⟩, ⟨2, none, [1], 0, 0, 0, 0, 0⟩]
def exO : List Int := [1]
def exL : List (List Int) := [[3], [4], [-2]]
def exR : List (List (Int × Nat)) := [[(3, 0)], [(7, 0)], [(5, 0)]]
theorem exq_len : DgLen exP exB exO := ⟨by decide, by decide, by decide, by decide⟩
theorem exq_err : runQE exP exB exO exL = 0 := by decide +kernel
theorem exq_out : runO exP exB exO (startM exB) exL = exR := by decide +kernel
def light11 (ps : List Prt) (bs : List Bk) (os : List Int) (ls : List (List Int)) : Bool := lightB ps bs os && decide (ls.length ≤ 300 ∧ ls.length * bs.length ≤ 3000) && ls.all fun l => decide (l.length ≤ 40)
def lean11B (rs : List Rv) : Bool := (rs.all fun r => decide (r.ws.length ≤ 300 ∧ r.den ≤ 20000)) && decide (rs.length ≤ 100)
theorem all_no {α : Type} {p : α → Bool} {l : List α} {k : Nat} {x : α} (h : l[k]? = some x) (hp : p x = false) : l.all p = false := List.all_eq_false.2 ⟨x, List.mem_of_getElem? h, by rw [hp]; exact Bool.false_ne_true⟩
theorem runO_sm {ps : List Prt} {bs : List Bk} {os : List Int} (h0 : dgErr ps bs os = 0) : ∀ {ls : List (List Int)} {st : List (Int × Nat)}, StOk bs st → AllT ps bs st ls → ∀ row ∈ runO ps bs os st ls, (∀ p ∈ row, Sm p LB LB) ∧ row.length = os.length
  | [], st, _, _, row, hr => by cases hr
  | ins :: l, st, h, ha, row, hr => by
    obtain ⟨h1, h2⟩ := ha.head
    rcases List.mem_cons.1 (show row ∈ outV ps bs os st ins :: runO ps bs os (nextE ps bs st ins) l from hr) with rfl | hr
    · refine ⟨fun p hp => ?_, by unfold outV; rw [List.length_map]⟩
      obtain ⟨o, _, rfl⟩ := List.mem_map.1 hp
      exact getD_sm (val_sm h0 h.len h.nf h1) _
    · exact runO_sm h0 (next_ok h0 h.len h.nf h1) h2 row hr
theorem runE_all {ps : List Prt} {bs : List Bk} : ∀ {ls : List (List Int)} {st : List (Int × Nat)}, runE ps bs st ls = 0 → AllT ps bs st ls
  | [], st, _ => AllT.nil
  | ins :: l, st, h => by
    have h' : (if tickE ps bs st ins = 0 then runE ps bs (nextE ps bs st ins) l else tickE ps bs st ins) = 0 := h
    by_cases h1 : tickE ps bs st ins = 0
    · rw [if_pos h1] at h'
      have ih := runE_all h'
      intro k j hj
      cases k with
      | zero => simp only [List.getElem?_cons_zero, Option.some.injEq] at hj; subst hj; exact h1
      | succ k => exact ih k j hj
    · rw [if_neg h1] at h'; exact absurd h' h1
theorem runQ_zero {ps : List Prt} {bs : List Bk} {os : List Int} {ls : List (List Int)} (h : runQE ps bs os ls = 0) : dgErr ps bs os = 0 ∧ ls.length ≤ 256 ∧ AllT ps bs (startM bs) ls := by
  unfold runQE at h
  by_cases h0 : dgErr ps bs os = 0
  · rw [if_neg (not_not_intro h0)] at h
    by_cases h1 : 256 < ls.length
    · rw [if_pos h1] at h; cases h
    · rw [if_neg h1] at h
      exact ⟨h0, by omega, runE_all h⟩
  · rw [if_pos h0] at h; exact absurd h h0
theorem rows_at {rows : List (List (Int × Nat))} {k : Nat} {l : List (Int × Nat)} (h : rows[k]? = some l) : ((rows.map dRw).drop (k * 1)).take 1 = [dRw l] := map_at h
theorem light11_len {ps : List Prt} {bs : List Bk} {os : List Int} {ls : List (List Int)} (h : light11 ps bs os ls = true) : DgLen ps bs os ∧ (ls.length ≤ 300 ∧ bs.length ≤ 80) ∧ ∀ l ∈ ls, l.length ≤ 40 := by
  unfold light11 at h
  rw [Bool.and_eq_true, Bool.and_eq_true] at h
  obtain ⟨⟨h1, h2⟩, h3⟩ := h
  have h4 := of_decide_eq_true h2
  have h5 := light_len h1
  exact ⟨h5.1, ⟨h4.1, h5.2⟩, fun l hl => of_decide_eq_true (List.all_eq_true.1 h3 l hl)⟩
theorem example_cv  : CV Tryd.prog TabAt 34 [] [aDg false exP exB exO] := by
  refine cvz Tryd.func34 Tryd.ntmps34 ?_
  repeat' (with_reducible first | apply qa | apply qb | apply qc | apply qd | apply qe | apply qf | apply qg | apply qh | apply qi | apply qj | apply qk | apply ql rfl | apply qm rfl | apply qn rfl | apply Je | (refine Tx 0 ?_; refine Jn (xAl tz_Diagram) ?_) | (refine Tx 1 ?_; refine Jo (by exact ok_build rfl tb_Port rfl rfl) ?_; refine Jn (by exact ok_build1 rfl ts_s_Port tz_Port rfl rfl (by decide) (by decide)) ?_; refine Jn (by exact ok_build1 rfl ts_s_int tz_int rfl rfl (by decide) (by decide)) ?_; refine Jn (by exact ok_build1 rfl ts_s_int tz_int rfl rfl (by decide) (by decide)) ?_; refine Jo (by exact ok_build rfl tb_Block rfl rfl) ?_; refine Jn (by exact ok_build2 rfl ts_s_int tz_int rfl rfl rfl rfl (by decide) (by decide)) ?_; refine Jo (by exact ok_build rfl tb_Block rfl rfl) ?_; refine Jn (by exact ok_build1 rfl ts_s_int tz_int rfl rfl (by decide) (by decide)) ?_; refine Jo (by exact ok_build rfl tb_Block rfl rfl) ?_; refine Jn (by exact ok_buildN rfl rfl ts_s_Block tz_Block (by decide) (by decide) (by decide) rfl rfl rfl) ?_; refine Jo (by exact ok_build rfl tb_Diagram rfl rfl) ?_; refine Js (xSk tk_Diagram) ?_))
  exact ret_q rfl (.cons_ (rv_box rfl rfl tk_Diagram rfl rfl (by first | ((repeat' first | exact lrel_n rfl rfl | refine lrel_c rfl rfl ?_ ?_ | refine xexp_1 rfl rfl ?_ | refine xexp_a rfl rfl ?_ | exact cexp_d rfl (fun _ => DFree.val _) | exact cexp_n rfl rfl | exact cexp_e rfl rfl | refine cexp_o rfl rfl rfl ?_) <;> fail) | fail)) .nil_)
theorem awake11_cv  : CV Tryd.prog TabAt 9 [] [aB true] := by
  refine cvz Tryd.func9 Tryd.ntmps9 ?_
  have RU := prun_cv false true true (ps := exP) (bs := exB) (os := exO) exq_len exL (by decide) (by decide)
  rw [exq_err, okQ_z rfl, exq_out, show rowLD exR = .row false 1 3 [.row false 3 1 (flatD dyP [(3, 0)]), .row false 3 1 (flatD dyP [(7, 0)]), .row false 3 1 (flatD dyP [(5, 0)])] from rfl] at RU
  have OF := pdof_cv 7 (by decide) (by decide)
  have OG := pdof_cv 5 (by decide) (by decide)
  have CM := pdcmp_cv 7 0 7 0 ⟨by decide, fun h => absurd rfl h⟩ ⟨by decide, fun h => absurd rfl h⟩ (by decide +kernel) (by decide +kernel)
  have CN := pdcmp_cv 5 0 5 0 ⟨by decide, fun h => absurd rfl h⟩ ⟨by decide, fun h => absurd rfl h⟩ (by decide +kernel) (by decide +kernel)
  rw [show dyCmp 7 0 7 0 = 0 by decide +kernel] at CM
  rw [show dyCmp 5 0 5 0 = 0 by decide +kernel] at CN
  repeat' (with_reducible first | apply qa | apply qb | apply qc | apply qd | apply qe | apply qf | apply qg | apply qh | apply qi | apply qj | apply qk | apply ql rfl | apply qm rfl | apply qn rfl | apply Je | (refine Tx 0 ?_; refine Ja ?_) | (refine Tx 1 ?_; refine Jo (xCl Tryd.func34 (example_cv)) ?_; refine Jn (by exact ok_build1 rfl ts_s_int tz_int rfl rfl (by decide) (by decide)) ?_; refine Jn (by exact ok_build1 rfl ts_s_int tz_int rfl rfl (by decide) (by decide)) ?_; refine Jn (by exact ok_build1 rfl ts_s_int tz_int rfl rfl (by decide) (by decide)) ?_; refine Jn (by exact ok_buildN rfl rfl ts_s_s_int tz_s_int (by decide) (by decide) (by decide) rfl rfl rfl) ?_; refine Jo (xCl Tryd.func23 (RU)) ?_; refine Jo xMt ?_; refine Jo xEx ?_; refine Jo xEx ?_; refine Ja ?_; refine Ja ?_) | (refine cw_any (id := 2) mixed (by kernel_rfl) ?_; refine Km ?_; refine Ko (by first | exact ok_eqlE rfl ti_error rfl (beq_t rfl) | exact ok_eqlE rfl ti_error rfl (beq_t (by first | rfl | omega)) | exact ok_eqlE rfl ti_error rfl (beq_f (by first | assumption | omega)) | exact ok_eqlE rfl ti_error rfl rfl) ?_; refine Km ?_; (first | iterate 3 refine Kd ?_ | (refine Ky xM1 ?_; refine Ky (xLn ts_s_s_Dyadic) ?_; refine Ky xEq ?_)); refine Ko xPk ?_; refine Km ?_; (first | iterate 5 refine Kd ?_ | (refine Ky xM1 ?_; refine Ky (by exact ok_ixR (i := 2) rfl rfl rfl rfl ts_s_s_Dyadic (by decide) (by decide) rfl) ?_; refine Ky (xLd tk_s_Dyadic) ?_; refine Ky (xLn ts_s_Dyadic) ?_; refine Ky xEq ?_)); refine Ko xPk ?_; refine Km ?_; (first | iterate 8 refine Kd ?_ | (refine Ky xM1 ?_; refine Ky (by exact ok_ixR (i := 1) rfl rfl rfl rfl ts_s_s_Dyadic (by decide) (by decide) rfl) ?_; refine Ky (xLd tk_s_Dyadic) ?_; refine Ky (by exact ok_ixR (i := 0) rfl rfl rfl rfl ts_s_Dyadic (by decide) (by decide) rfl) ?_; refine Ky (xLa tk_Dyadic) ?_; refine Ky (by first | exact xCl Tryd.func35 (OF) | exact xCl Tryd.func35 (OG)) ?_; refine Ky (by first | exact xCl Tryd.func31 (CM) | exact xCl Tryd.func31 (CN)) ?_; refine Ky xEq ?_)); refine Ko xPk ?_; refine Km ?_; (first | iterate 8 refine Kd ?_ | (refine Ky xM1 ?_; refine Ky (by exact ok_ixR (i := 2) rfl rfl rfl rfl ts_s_s_Dyadic (by decide) (by decide) rfl) ?_; refine Ky (xLd tk_s_Dyadic) ?_; refine Ky (by exact ok_ixR (i := 0) rfl rfl rfl rfl ts_s_Dyadic (by decide) (by decide) rfl) ?_; refine Ky (xLa tk_Dyadic) ?_; refine Ky (by first | exact xCl Tryd.func35 (OF) | exact xCl Tryd.func35 (OG)) ?_; refine Ky (by first | exact xCl Tryd.func31 (CM) | exact xCl Tryd.func31 (CN)) ?_; refine Ky xEq ?_)); refine Ko xPk ?_; refine Ka ?_; refine Ke ?_))
  exact ret_q rfl (.cons_ (rv_b rfl (rfl)) .nil_)
theorem light11_cv (t u : Bool) (ps : List Prt) (bs : List Bk) (os : List Int) (ls : List (List Int)) : CV Tryd.prog TabAt 14 [aDg t ps bs os, .one (rowLI u ls)] [aB (light11 ps bs os ls)] := by
  refine cvz Tryd.func14 Tryd.ntmps14 ?_
  have LT := light_cvT t ps bs os
  by_cases h1 : lightB ps bs os = true
  case neg =>
    rw [Bool.not_eq_true] at h1
    rw [h1] at LT
    repeat' (with_reducible first | apply qa | apply qb | apply qc | apply qd | apply qe | apply qf | apply qg | apply qh | apply qi | apply qj | apply qk | apply ql rfl | apply qm rfl | apply qn rfl | apply Je | (refine Tx 0 ?_; refine Jn xBo ?_; refine Ja ?_) | (refine Tx 1 ?_; refine Jo (xLa tk_Diagram) ?_; refine Jo (xCl Tryd.func39 (LT)) ?_; refine Jo (by first | exact xNt | exact xNg) ?_; refine Jm ?_; (first | iterate 3 refine Jd ?_ | (refine Jy xM1 ?_; refine Jy (xLn ts_s_s_int) ?_; refine Jy xGt ?_)); refine Jo xPk ?_; refine Jm ?_; (first | iterate 7 refine Jd ?_ | (refine Jy xM1 ?_; refine Jy (xLn ts_s_s_int) ?_; refine Jy (xFa tf_Diagram1 tk_s_Block) ?_; refine Jy (xLd tk_s_Block) ?_; refine Jy (xLn ts_s_Block) ?_; refine Jy (by exact ok_mul64 rfl rfl rfl (by omega)) ?_; refine Jy xGt ?_)); refine Jo xPk ?_) | (refine Tx 2 ?_; refine Ja ?_))
    exact ret_q rfl (.cons_ (rv_b rfl (by unfold light11; rw [h1]; rfl)) .nil_)
  rw [h1] at LT
  have hbl := (light_len h1).2
  by_cases h2 : 300 < ls.length
  case pos =>
    repeat' (with_reducible first | apply qa | apply qb | apply qc | apply qd | apply qe | apply qf | apply qg | apply qh | apply qi | apply qj | apply qk | apply ql rfl | apply qm rfl | apply qn rfl | apply Je | (refine Tx 0 ?_; refine Jn xBo ?_; refine Ja ?_) | (refine Tx 1 ?_; refine Jo (xLa tk_Diagram) ?_; refine Jo (xCl Tryd.func39 (LT)) ?_; refine Jo (by first | exact xNt | exact xNg) ?_; refine Jm ?_; (first | iterate 3 refine Jd ?_ | (refine Jy xM1 ?_; refine Jy (xLn ts_s_s_int) ?_; refine Jy xGt ?_)); refine Jo xPk ?_; refine Jm ?_; (first | iterate 7 refine Jd ?_ | (refine Jy xM1 ?_; refine Jy (xLn ts_s_s_int) ?_; refine Jy (xFa tf_Diagram1 tk_s_Block) ?_; refine Jy (xLd tk_s_Block) ?_; refine Jy (xLn ts_s_Block) ?_; refine Jy (by exact ok_mul64 rfl rfl rfl (by omega)) ?_; refine Jy xGt ?_)); refine Jo xPk ?_) | (refine Tx 2 ?_; refine Ja ?_))
    exact ret_q rfl (.cons_ (rv_b rfl (by unfold light11; rw [h1, decide_eq_false (by omega)]; rfl)) .nil_)
  have hq : ls.length * bs.length ≤ 300 * 80 := Nat.mul_le_mul (by omega) hbl
  have hm : IntKind.i64.wrap (((ls.length : Nat) : Int) * ((bs.length : Nat) : Int)) = ((ls.length * bs.length : Nat) : Int) := by rw [← Int.natCast_mul, IntWalk.i64_in _ (by omega)]
  generalize hmm : ls.length * bs.length = q at *
  by_cases h3 : 3000 < q
  case pos =>
    repeat' (with_reducible first | apply qa | apply qb | apply qc | apply qd | apply qe | apply qf | apply qg | apply qh | apply qi | apply qj | apply qk | apply ql rfl | apply qm rfl | apply qn rfl | apply Je | (refine Tx 0 ?_; refine Jn xBo ?_; refine Ja ?_) | (refine Tx 1 ?_; refine Jo (xLa tk_Diagram) ?_; refine Jo (xCl Tryd.func39 (LT)) ?_; refine Jo (by first | exact xNt | exact xNg) ?_; refine Jm ?_; (first | iterate 3 refine Jd ?_ | (refine Jy xM1 ?_; refine Jy (xLn ts_s_s_int) ?_; refine Jy xGt ?_)); refine Jo xPk ?_; refine Jm ?_; (first | iterate 7 refine Jd ?_ | (refine Jy xM1 ?_; refine Jy (xLn ts_s_s_int) ?_; refine Jy (xFa tf_Diagram1 tk_s_Block) ?_; refine Jy (xLd tk_s_Block) ?_; refine Jy (xLn ts_s_Block) ?_; refine Jy (by exact ok_mul64 rfl rfl rfl (by omega)) ?_; refine Jy (by first | exact ok_mulR rfl rfl rfl hm | exact xGt) ?_)); refine Jo xPk ?_) | (refine Tx 2 ?_; refine Ja ?_))
    exact ret_q rfl (.cons_ (rv_b rfl (by unfold light11; rw [h1, hmm, decide_eq_false (by omega)]; rfl)) .nil_)
  repeat' (with_reducible first | apply qa | apply qb | apply qc | apply qd | apply qe | apply qf | apply qg | apply qh | apply qi | apply qj | apply qk | apply ql rfl | apply qm rfl | apply qn rfl | apply Je | (refine Tx 0 ?_; refine Jn xBo ?_; refine Ja ?_) | (refine Tx 1 ?_; refine Jo (xLa tk_Diagram) ?_; refine Jo (xCl Tryd.func39 (LT)) ?_; refine Jo (by first | exact xNt | exact xNg) ?_; refine Jm ?_; (first | iterate 3 refine Jd ?_ | (refine Jy xM1 ?_; refine Jy (xLn ts_s_s_int) ?_; refine Jy xGt ?_)); refine Jo xPk ?_; refine Jm ?_; (first | iterate 7 refine Jd ?_ | (refine Jy xM1 ?_; refine Jy (xLn ts_s_s_int) ?_; refine Jy (xFa tf_Diagram1 tk_s_Block) ?_; refine Jy (xLd tk_s_Block) ?_; refine Jy (xLn ts_s_Block) ?_; refine Jy (by exact ok_mul64 rfl rfl rfl (by omega)) ?_; refine Jy (by first | exact ok_mulR rfl rfl rfl hm | exact xGt) ?_)); refine Jo xPk ?_) | (refine Tx 3 ?_; refine Jm ?_; refine Jo (xLn ts_s_s_int) ?_; refine Jm ?_))
  refine cw_wk (F' := ofL [(24, vd (rowLI u ls)), (25, vi ls.length), (26, vi ((0 : Nat)))]) (H' := []) (wk_go _ 0 ?_ ?_ ?_) ?_
  · rfl
  · exact mB rfl rfl
  · exact trivial
  refine cw_loopW (fun n Fr H => ∃ k : Nat, k ≤ ls.length ∧ n = ls.length - k ∧ (ls.take k).all (fun l => decide (l.length ≤ 40)) = true ∧ Fr = ofL [(24, vd (rowLI u ls)), (25, vi ls.length), (26, vi ((k : Nat)))] ∧ H = []) (n0 := ls.length) ⟨0, Nat.zero_le _, rfl, rfl, rfl, rfl⟩ ?_
  rintro n Fr H ⟨k, hk, rfl, hall, rfl, rfl⟩
  by_cases hlt : k < ls.length
  case pos =>
    obtain ⟨l, hl⟩ : ∃ l, ls[k]? = some l := ⟨_, List.getElem?_eq_getElem hlt⟩
    by_cases h4 : l.length ≤ 40
    case neg =>
      repeat' (with_reducible first | apply qa | apply qb | apply qc | apply qd | apply qe | apply qf | apply qg | apply qh | apply qi | apply qj | apply qk | apply ql rfl | apply qm rfl | apply qn rfl | apply Je | (refine Tx 4 ?_; refine Jo xLt ?_) | (refine Tx 5 ?_; refine Jo (xIr ts_s_s_int (lin_at hl)) ?_; refine Jo (xLd tk_s_int) ?_; refine Ja ?_) | (refine Tx 6 ?_; refine Jm ?_; refine Jo (xLn ts_s_int) ?_; refine Jo xGt ?_) | (refine Tx 7 ?_; refine Ja ?_))
      exact ret_q rfl (.cons_ (rv_b rfl (by unfold light11; rw [all_no hl (decide_eq_false h4), Bool.and_false])) .nil_)
    repeat' (with_reducible first | apply qa | apply qb | apply qc | apply qd | apply qe | apply qf | apply qg | apply qh | apply qi | apply qj | apply qk | apply ql rfl | apply qm rfl | apply qn rfl | apply Je | (refine Tx 4 ?_; refine Jo xLt ?_) | (refine Tx 5 ?_; refine Jo (xIr ts_s_s_int (lin_at hl)) ?_; refine Jo (xLd tk_s_int) ?_; refine Ja ?_) | (refine Tx 6 ?_; refine Jm ?_; refine Jo (xLn ts_s_int) ?_; refine Jo xGt ?_) | (refine Tx 8 ?_; refine Jo xAd ?_; refine Jm ?_))
    refine ⟨_, _, wk_go _ 0 ?_ ?_ ?_, _, by omega, k + 1, by omega, rfl, all_take hl hall (decide_eq_true h4), rfl, rfl⟩
    · rfl
    · exact mB rfl rfl
    · exact trivial
  obtain rfl : k = ls.length := by omega
  rw [List.take_length] at hall
  repeat' (with_reducible first | apply qa | apply qb | apply qc | apply qd | apply qe | apply qf | apply qg | apply qh | apply qi | apply qj | apply qk | apply ql rfl | apply qm rfl | apply qn rfl | apply Je | (refine Tx 4 ?_; refine Jo xLt ?_) | (refine Tx 9 ?_; refine Ja ?_))
  exact ret_q rfl (.cons_ (rv_b rfl (by unfold light11; rw [h1, hall, hmm, decide_eq_true (by omega)]; rfl)) .nil_)
def fitL (ps : List Prt) (ls : List (List Int)) : List (List Int) := ls.map fun l => inpV ps l ps.length
theorem inp_in {ps : List Prt} {bs : List Bk} {os : List Int} (he : dgErr ps bs os = 0) (l : List Int) : inOk ps (inpV ps l ps.length) = true := by
  refine List.all_eq_true.2 fun i hi => ?_
  have hil := List.mem_range.1 hi
  rw [inp_len] at hil
  obtain ⟨p, hp⟩ : ∃ p, ps[i]? = some p := ⟨_, List.getElem?_eq_getElem hil⟩
  have hz : (inpV ps l ps.length)[i]? = some (clipI (l[i]?.getD 0) p.lo p.hi) := by
    unfold inpV
    rw [List.getElem?_map, List.getElem?_range hil, Option.map_some, hp]
    rfl
  unfold rngB
  rw [hp, hz]
  have hpp := acc_port he hp
  have h3 : -2147483648 ≤ p.lo ∧ p.lo ≤ p.hi ∧ p.hi < 2147483648 ∧ 0 ≤ p.fr ∧ p.fr ≤ 30 := Classical.byContradiction fun hn => by unfold portE at hpp; rw [if_neg hn] at hpp; cases hpp
  refine decide_eq_true ?_
  unfold clipI
  omega
theorem tick_fit {ps : List Prt} {bs : List Bk} {os : List Int} (he : dgErr ps bs os = 0) {st : List (Int × Nat)} (l : List Int) : tickE ps bs st (inpV ps l ps.length) = if stepBad ps bs st (inpV ps l ps.length) = true then 4 else 0 := by
  unfold tickE
  rw [if_neg (not_not_intro (inp_len ps l)), if_neg (by rw [inp_in he l]; decide)]
theorem tick_four {ps : List Prt} {bs : List Bk} {os : List Int} (he : dgErr ps bs os = 0) {st : List (Int × Nat)} {l : List Int} (h : tickE ps bs st (inpV ps l ps.length) ≠ 0) : tickE ps bs st (inpV ps l ps.length) = 4 := by
  rw [tick_fit he] at h ⊢
  split
  · rfl
  · rename_i hn; rw [if_neg hn] at h; exact absurd rfl h
theorem run_four {ps : List Prt} {bs : List Bk} {os : List Int} (he : dgErr ps bs os = 0) : ∀ {ls : List (List Int)} {st : List (Int × Nat)}, runE ps bs st (fitL ps ls) = 0 ∨ runE ps bs st (fitL ps ls) = 4
  | [], st => .inl rfl
  | l :: ls, st => by
    show (if tickE ps bs st (inpV ps l ps.length) = 0 then runE ps bs (nextE ps bs st (inpV ps l ps.length)) (fitL ps ls) else tickE ps bs st (inpV ps l ps.length)) = 0 ∨ (if tickE ps bs st (inpV ps l ps.length) = 0 then runE ps bs (nextE ps bs st (inpV ps l ps.length)) (fitL ps ls) else tickE ps bs st (inpV ps l ps.length)) = 4
    by_cases h : tickE ps bs st (inpV ps l ps.length) = 0
    · rw [if_pos h]; exact run_four he
    · rw [if_neg h]; exact .inr (tick_four he h)
theorem pcheck_cv (t : Bool) {ps : List Prt} {bs : List Bk} {os : List Int} (hl : DgLen ps bs os) : CVF Tryd.prog TabAt 25 [aDg t ps bs os] [aE (dgErr ps bs os)] := fun w S vs hg hlt ha => by
  obtain ⟨v, rfl, hv⟩ := one_arg ha
  obtain ⟨d, rfl, hd, rfl, hz, rfl, _, _⟩ := dg_open hlt hv hl
  refine (Check_any d _ w (Nat.le_refl _) hd hg).mono fun e w' ⟨he, hb⟩ => ?_
  rw [show dgErr d.ps d.bs d.os = dgErr d.ps bs d.os by rw [← dgErr_z, hz, dgErr_z]] at he
  exact ⟨_, he, DRel.val (errV_one _), hb⟩
def mix (zs args : List Int) (t : Nat) : List Int := zs.take t ++ args.drop t
def placeRel (w : World) (xs : List Int) (n : Int) (i : Value) (wr : World) : Prop := ∃ k : Nat, k ≤ xs.length ∧ i = .int .i64 k ∧ n ∉ xs.take k ∧ wr = w
end Go.Proofs.YtfooonellkgaeaaDoor
