/- A diagram without the blocks that no output needs, as the program makes it. Condition: lists of at most a million; a nil list has no room; the table of math/bits stands in block 0. A diagram without the blocks that no output needs, as the document makes it. Condition: lists of at most a million; a nil list has no room. -/
import Derived.Test.YtaheedieingpiaaDoorDhG
import Derived.Test.YtaheedieingpiaaDoorDhE
namespace Go.Proofs.YtaheedieingpiaaDoor
set_option linter.unusedVariables false
set_option linter.unusedSimpArgs false
set_option linter.unusedSectionVars false
open Go.RowKit

/-- A nil list has no room. -/
structure Nz (d : Dg) : Prop where
  n1 : d.A1 = none → d.c1 = 0
  n4 : ∀ b ∈ d.bs, b.A = none → b.cap = 0
/-- What a call returns that gives a diagram, numbers and an error. -/
def PruneP (ps : List Prt) (l : List Bk) (os : List Int) (kept : List Int) (er : Int) (w : World) (e : Ending) (w' : World) : Prop :=
  ∃ (d' : Dg) (v : Value), e = .returned (.tuple #[d'.val, v, errV er]) ∧ DgAt w' w'.heap.size d' ∧ Nz d' ∧ d'.ps = ps ∧ d'.bs.map core = l.map core ∧ d'.os = os ∧ OwnI w' w.heap.size v kept ∧ Below w.heap.size w w'
theorem res_prune {tmps : Array Value} {w : World} {b : Nat} {v0 v1 v2 v3 v4 : Value} (h2 : tmps.getD 2 undef = .pointer (some ⟨b, 0, none⟩)) (h3 : tmps.getD 3 undef = v3) (h4 : tmps.getD 4 undef = v4) (hB : RowD w b [v0, v1, v2] 26) :
    (results Tryd.f21 tmps).run Tryd.prog w = .ok (.tuple #[.agg #[v0, v1, v2], v3, v4]) w := by
  have k0 := hB.cell 0
  have k1 := hB.cell 1
  have k2 := hB.cell 2
  simp at k0 k1 k2
  simp at h2 h3 h4
  simp [results, Tryd.results21, go_sem, h2, h3, h4, k0, k1, k2]
def pg1 (w : World) (bs : List Bk) (os : List Int) (g : Nat) (w2 : World) (v : Value) (wr : World) : Prop :=
  ∃ (t : Nat) (m : List Bool), t ≤ os.length ∧ v = .int .i64 (t : Int) ∧ PrI bs os t m ∧ RowD wr g (bools m) 4 ∧ Apart g w2 wr
def pg2 (n : Nat) (L : List Nat) (gi : Nat) (w5 : World) (v : Value) (wr : World) : Prop :=
  ∃ t : Nat, t ≤ L.length ∧ v = .int .i64 (t : Int) ∧ RowD wr gi (ints (numT n L t)) 3 ∧ Apart gi w5 wr
/-- The blocks that are made: each with arguments of its own. -/
structure BkOwn (w : World) (base : Nat) (l : List Bk) : Prop where
  args : ∀ x ∈ l, OwnI w base (.slice x.A x.args.length x.cap) x.args ∧ x.args.length ≤ 1000000
def wantK (bs : List Bk) (L : List Nat) (k : Nat) : List Bk := (L.take k).map fun i => prB L (bs[i]?.getD bk0)
def pg3 (bs : List Bk) (L : List Nat) (PV : Value) (OB : Nat) (w17 : World) (v : Value) (wr : World) : Prop :=
  ∃ (k : Nat) (V : Value) (l : List Bk), k ≤ L.length ∧ v = .int .i64 (k : Int) ∧ RowD wr OB [PV, V, .slice none 0 0] 26 ∧ OwnB wr (OB + 1) V l ∧ l.map core = (wantK bs L k).map core ∧ BkOwn wr (OB + 1) l ∧ Below OB w17 wr
def pg4 (S : Nat) (box : List Value) (zs : List Int) (wr : World) (v17 v81 : Value) (w9 : World) : Prop :=
  ∃ (t : Nat) (v : Value), t ≤ zs.length ∧ v81 = .int .i64 (t : Int) ∧ v17 = v ∧ OwnI w9 (S + 1) v (zs.take t) ∧ RowD w9 S box 44 ∧ Below S wr w9
def pg5 (os' : List Int) (PV V : Value) (OB : Nat) (w33 : World) (v : Value) (wr : World) : Prop :=
  ∃ (t : Nat) (V5 : Value), t ≤ os'.length ∧ v = .int .i64 (t : Int) ∧ RowD wr OB [PV, V, V5] 26 ∧ OwnI wr w33.heap.size V5 (os'.take t) ∧ Apart OB w33 wr
theorem wantK_len {bs : List Bk} {L : List Nat} {k : Nat} (h : k ≤ L.length) : (wantK bs L k).length = k := by simp [wantK]; omega
theorem wantK_succ {bs : List Bk} {L : List Nat} {k i : Nat} {b : Bk} (h : L[k]? = some i) (hb : bs[i]? = some b) : wantK bs L (k + 1) = wantK bs L k ++ [prB L b] := by
  unfold wantK
  rw [List.take_add_one, h]
  simp [hb]
theorem pg3_low {bs l : List Bk} {L : List Nat} {PV V v17 v' : Value} {OB k i : Nat} {w17 wr w9 w5 : World} {b x : Bk} (o : Obj) (HO : RowD wr OB [PV, V, .slice none 0 0] 26) (HV : OwnB wr (OB + 1) V l) (hl : l.map core = (wantK bs L k).map core) (HA : BkOwn wr (OB + 1) l) (hb : Below OB w17 wr)
    (hk : L[k]? = some i) (hbi : bs[i]? = some b) (h9 : Below wr.heap.size wr w9) (hO9 : OwnI w9 (wr.heap.size + 1) v17 x.args) (hx : core x = core (prB L b)) (hxl : x.args.length ≤ 1000000) (hv : v17 = .slice x.A x.args.length x.cap)
    (hg : ((w9.setCell ⟨wr.heap.size, 1, none⟩ v17).alloc o).grownBy w5 V.ownBlock) (hb5 : Below (OB + 1) ((w9.setCell ⟨wr.heap.size, 1, none⟩ v17).alloc o) w5) (hown : OwnB w5 (OB + 1) v' (l ++ [x])) :
    pg3 bs L PV OB w17 (.int .i64 ((k : Int) + 1)) (w5.setCell ⟨OB, 1, none⟩ v') := by
  have hOB := HO.lt
  have hkl := (List.getElem?_eq_some_iff.1 hk).1
  have hbb : Below wr.heap.size wr ((w9.setCell ⟨wr.heap.size, 1, none⟩ v17).alloc o) := (h9.setCell (p := ⟨wr.heap.size, 1, none⟩) (Nat.le_refl _) v17).alloc (by have := h9.size; simpa using this) o
  have HVb : OwnB ((w9.setCell ⟨wr.heap.size, 1, none⟩ v17).alloc o) (OB + 1) V l := HV.call hbb
  refine ⟨k + 1, v', l ++ [x], by omega, by go_num, ((HO.below hbb hOB).below hb5 (by omega)).set_ 1 v', hown.setLow (by omega) 1 v', ?_, ⟨fun y hy => ?_⟩, ?_⟩
  · rw [wantK_succ hk hbi, List.map_append, List.map_append, hl]
    simp [hx]
  · rcases List.mem_append.1 hy with hy | hy
    · obtain ⟨h1, h2⟩ := HA.args y hy
      exact ⟨(OwnI.byB (h1.call hbb) HVb hg).setLow (by omega) 1 v', h2⟩
    · simp at hy
      subst hy
      subst hv
      exact ⟨(OwnI.byB (((hO9.setLow (by omega) 1 _).alloc o).base_ (by omega)) HVb hg).setLow (by omega) 1 v', hxl⟩
  · exact ((hb.trans (hbb.mono (by omega))).trans (hb5.mono (by omega))).setCell (p := ⟨OB, 1, none⟩) (Nat.le_refl _) v'
theorem pg5_low {zs : List Int} {PV V V5 v' : Value} {OB t : Nat} {z : Int} {w33 wr w5 : World} {o : Obj} (HO : RowD wr OB [PV, V, V5] 26) (hap : Apart OB w33 wr) (hown : OwnI w5 w33.heap.size v' (zs.take t ++ [z])) (hz : zs[t]? = some z) (hb : Below w33.heap.size ((wr.drew).alloc o) w5) (hOB : OB < w33.heap.size) :
    pg5 zs PV V OB w33 (.int .i64 ((t : Int) + 1)) (w5.setCell ⟨OB, 2, none⟩ v') := by
  have hlt := (List.getElem?_eq_some_iff.1 hz).1
  have h1 : Below wr.heap.size wr ((wr.drew).alloc o) := (Below.refl _ wr).drew.alloc (Nat.le_refl _) o
  refine ⟨t + 1, v', by omega, by go_num, ((HO.call h1).below hb hOB).set_ 2 v', ?_, ?_⟩
  · rw [List.take_add_one, hz]
    exact hown.setLow hOB 2 v'
  · exact ((hap.trans (Apart.of h1)).more hb (Nat.le_refl _)).trans (Apart.set _)
theorem DgAt.made {w : World} {base : Nat} {PA BA OA : Option Addr} {ps : List Prt} {l : List Bk} {os : List Int} {c1 c2 c3 : Nat} (hP : CellsAt w w.heap.size PA (flat Prt.cells ps)) (hB : CellsAt w w.heap.size BA (flat Bk.cells l)) (hO : CellsAt w w.heap.size OA (ints os)) (HA : BkOwn w base l) (l1 : ps.length ≤ 1000000) (l2 : l.length ≤ 1000000) (l3 : os.length ≤ 1000000) (n1 : PA = none → c1 = 0) :
    DgAt w w.heap.size ⟨PA, ps, c1, BA, l, c2, OA, os, c3⟩ ∧ Nz ⟨PA, ps, c1, BA, l, c2, OA, os, c3⟩ := by
  refine ⟨⟨hP, hB, hO, fun b hb => ?_, l1, l2, l3⟩, ⟨n1, fun b hb => ?_⟩⟩
  · obtain ⟨h1, h2⟩ := HA.args b hb
    exact ⟨h1.cells, h2⟩
  · obtain ⟨h1, h2⟩ := HA.args b hb
    obtain ⟨A, c, he, hn, _⟩ := h1.view
    simp only [Value.slice.injEq] at he
    obtain ⟨rfl, _, rfl⟩ := he
    exact hn
set_option maxRecDepth 100000 in
set_option maxHeartbeats 8000000 in
theorem prune_bad (d : Dg) (m : Nat) (w : World) (hm : m ≤ w.heap.size) (hd : DgAt w m d) (ht : TabAt w) (he : ¬ dgErr d.ps d.bs d.os = 0) :
    Calls Tryd.prog 21 #[d.val] w (PruneP [] [] [] [] (dgErr d.ps d.bs d.os) w) := by
  have hl1 := hd.l1
  have hl2 := hd.l2
  have hl3 := hd.l3
  have HD := Lib.hid hd
  have HT := Lib.hid ht
  clear hd ht
  obtain ⟨A1, ps, c1, A2, bs, c2, A3, os, c3⟩ := d
  dsimp only at hl1 hl2 hl3
  simp only [Dg.val]
  have b0 := ext_alloc (al_ w (.cells #[.slice A1 ps.length c1, .slice A2 bs.length c2, .slice A3 os.length c3] 26)) (.cells #[.slice none 0 0, .slice none 0 0, .slice none 0 0] 26)
  have r0 := (RowD.new_ w [.slice A1 ps.length c1, .slice A2 bs.length c2, .slice A3 os.length c3] 26).al (.cells #[.slice none 0 0, .slice none 0 0, .slice none 0 0] 26)
  have rr := RowD.new_ (w.alloc (.cells #[.slice A1 ps.length c1, .slice A2 bs.length c2, .slice A3 os.length c3] 26)) [.slice none 0 0, .slice none 0 0, .slice none 0 0] 26
  rw [size_al1] at rr
  have HB0 := Lib.hid b0
  have R0 := Lib.hid r0
  have RR := Lib.hid rr
  clear b0 r0 rr
  go_enter Tryd.func21, Tryd.ntmps21
  go_wp2_with fail
  go_at_call 18
  refine (Check_any ⟨A1, ps, c1, A2, bs, c2, A3, os, c3⟩ m _ (by simp; omega) (HD.out.below HB0.out hm) (HT.out.below HB0.out HT.out.1)).mono ?_
  rintro e w1 ⟨rfl, hb1⟩
  dsimp only
  have R1 := Lib.hid (R0.out.call hb1)
  have RR1 := Lib.hid (RR.out.call hb1)
  have N1 := Lib.hid (HB0.out.trans (hb1.mono HB0.out.size))
  have z1 : w.heap.size + 1 < w1.heap.size := RR1.out.lt
  clear hb1
  try dsimp only at he
  try dsimp only
  obtain ⟨E, hE⟩ : ∃ E, dgErr ps bs os = E := ⟨_, rfl⟩
  rw [hE] at he ⊢
  rw [errV_n he]
  have HEN := Lib.hid (errV_n he)
  have HER := Lib.hid hE
  have RF := Lib.hid (((RR1.out.set_ 0 (.slice none 0 0)).set_ 1 (.slice none 0 0)).set_ 2 (.slice none 0 0))
  have rf : ∀ j, w1.frozen? ⟨w.heap.size + 1, j, none⟩ = false := fun j => RR1.out.free j
  have k0 : w1.cell? ⟨w.heap.size + 1, 0, none⟩ = some (.slice none 0 0) := RR1.out.cell 0
  have k1 : w1.cell? ⟨w.heap.size + 1, 1, none⟩ = some (.slice none 0 0) := RR1.out.cell 1
  have k2 : w1.cell? ⟨w.heap.size + 1, 2, none⟩ = some (.slice none 0 0) := RR1.out.cell 2
  clear hE he
  go_wp2_with fail
  refine bodyPost_ret (res_prune (v3 := .slice none 0 0) (v4 := .iface 35 (.int .i64 E)) rfl rfl rfl RF.out) rfl ⟨⟨none, [], 0, none, [], 0, none, [], 0⟩, .slice none 0 0, by rw [HER.out, HEN.out]; rfl, ?_, ⟨fun _ => rfl, by simp⟩, rfl, rfl, rfl, OwnI.nil_ _ _, ?_⟩
  · exact ⟨CellsAt.nil_, CellsAt.nil_, CellsAt.nil_, by simp, by simp, by simp, by simp⟩
  · exact ((N1.out.setCell (p := ⟨w.heap.size + 1, 0, none⟩) (by show w.heap.size ≤ w.heap.size + 1; omega) _).setCell (p := ⟨w.heap.size + 1, 1, none⟩) (by show w.heap.size ≤ w.heap.size + 1; omega) _).setCell (p := ⟨w.heap.size + 1, 2, none⟩) (by show w.heap.size ≤ w.heap.size + 1; omega) _
theorem OwnI.apart' {w w' : World} {g base : Nat} {v : Value} {xs : List Int} (h : OwnI w base v xs) (ha : Apart g w w') (hg : ∀ q, v.ownBlock = some q → q ≠ g) : OwnI w' base v xs := by
  refine ⟨h.1, ?_⟩
  rcases h.2 with hn | ⟨g', cap, cur, rfl, hbg, hg', rest⟩
  · exact .inl hn
  · refine .inr ⟨g', cap, cur, rfl, hbg, ?_, rest⟩
    rw [ha.block g' (Array.getElem?_eq_some_iff.1 hg').1 (hg g' rfl)]
    exact hg'
theorem OwnB.cells_ {w : World} {base n c : Nat} {A : Option Addr} {l : List Bk} (h : OwnB w base (.slice A n c) l) : CellsAt w w.heap.size A (flat Bk.cells l) := by
  obtain ⟨A', c', he, _, hc⟩ := h.view
  simp only [Value.slice.injEq] at he
  obtain ⟨rfl, _, _⟩ := he
  exact hc
theorem OwnI.set3 {w : World} {base g : Nat} {v : Value} {xs : List Int} (h : OwnI w base v xs) (hg : g < base) (a b c : Value) : OwnI (((w.setCell ⟨g, 0, none⟩ a).setCell ⟨g, 1, none⟩ b).setCell ⟨g, 2, none⟩ c) base v xs := ((h.setLow hg 0 a).setLow hg 1 b).setLow hg 2 c
theorem OwnB.set3 {w : World} {base g : Nat} {v : Value} {xs : List Bk} (h : OwnB w base v xs) (hg : g < base) (a b c : Value) : OwnB (((w.setCell ⟨g, 0, none⟩ a).setCell ⟨g, 1, none⟩ b).setCell ⟨g, 2, none⟩ c) base v xs := ((h.setLow hg 0 a).setLow hg 1 b).setLow hg 2 c
theorem CellsAt.set3 {w : World} {m g : Nat} {A : Option Addr} {xs : List Value} (h : CellsAt w m A xs) (hA : ∀ a : Addr, A = some a → a.block ≠ g) (a b c : Value) : CellsAt (((w.setCell ⟨g, 0, none⟩ a).setCell ⟨g, 1, none⟩ b).setCell ⟨g, 2, none⟩ c) m A xs := ((h.setD a hA).setD b hA).setD c hA
theorem size3 (w : World) (g : Nat) (a b c : Value) : (((w.setCell ⟨g, 0, none⟩ a).setCell ⟨g, 1, none⟩ b).setCell ⟨g, 2, none⟩ c).heap.size = w.heap.size := by simp
theorem CellsAt.ap {w w' : World} {g m : Nat} {A : Option Addr} {xs : List Value} (h : CellsAt w m A xs) (ha : Apart g w w') (hg : m ≤ g) (hm : m ≤ w.heap.size) : CellsAt w' m A xs := h.below (ha.below hg hm) (Nat.le_refl _)
set_option maxRecDepth 100000 in
set_option maxHeartbeats 8000000 in
theorem prune_ok (d : Dg) (m : Nat) (w : World) (hm : m ≤ w.heap.size) (hd : DgAt w m d) (ht : TabAt w) (hnz : Nz d) (he : dgErr d.ps d.bs d.os = 0) :
    Calls Tryd.prog 21 #[d.val] w (PruneP d.ps (prBs d.bs d.os) (prOs d.bs d.os) (natI (keptL d.bs d.os)) 0 w) := by
  have hl1 := hd.l1
  have hl2 := hd.l2
  have hl3 := hd.l3
  have HD := Lib.hid hd
  have HT := Lib.hid ht
  clear hd ht
  obtain ⟨A1, ps, c1, A2, bs, c2, A3, os, c3⟩ := d
  dsimp only at hl1 hl2 hl3
  simp only [Dg.val]
  have b0 := ext_alloc (al_ w (.cells #[.slice A1 ps.length c1, .slice A2 bs.length c2, .slice A3 os.length c3] 26)) (.cells #[.slice none 0 0, .slice none 0 0, .slice none 0 0] 26)
  have r0 := (RowD.new_ w [.slice A1 ps.length c1, .slice A2 bs.length c2, .slice A3 os.length c3] 26).al (.cells #[.slice none 0 0, .slice none 0 0, .slice none 0 0] 26)
  have rr := RowD.new_ (w.alloc (.cells #[.slice A1 ps.length c1, .slice A2 bs.length c2, .slice A3 os.length c3] 26)) [.slice none 0 0, .slice none 0 0, .slice none 0 0] 26
  rw [size_al1] at rr
  have HB0 := Lib.hid b0
  have R0 := Lib.hid r0
  have RR := Lib.hid rr
  clear b0 r0 rr
  go_enter Tryd.func21, Tryd.ntmps21
  go_wp2_with fail
  go_at_call 18
  refine (Check_any ⟨A1, ps, c1, A2, bs, c2, A3, os, c3⟩ m _ (by simp; omega) (HD.out.below HB0.out hm) (HT.out.below HB0.out HT.out.1)).mono ?_
  rintro e w1 ⟨rfl, hb1⟩
  dsimp only
  have R1 := Lib.hid (R0.out.call hb1)
  have RR1 := Lib.hid (RR.out.call hb1)
  have N1 := Lib.hid (HB0.out.trans (hb1.mono HB0.out.size))
  have z1 : w.heap.size + 1 < w1.heap.size := RR1.out.lt
  clear hb1
  try dsimp only at he
  try dsimp only
  rw [he, errV_0]
  have HE := Lib.hid he
  have HOK := Lib.hid (dg_succ he)
  have HOO := Lib.hid (dg_outs he)
  have HN1 := Lib.hid hnz.n1
  obtain ⟨i0, hi, hz0, hz1, hz2⟩ := info_parts info_bool
  obtain ⟨j0, hj, hy0, hy1, hy2⟩ := info_parts info_int
  have q1 : w1.cell? ⟨w.heap.size, 1, none⟩ = some (.slice A2 bs.length c2) := R1.out.cell 1
  have q2 : w1.cell? ⟨w.heap.size, 2, none⟩ = some (.slice A3 os.length c3) := R1.out.cell 2
  have z1' : w.heap.size + 2 ≤ w1.heap.size := by omega
  clear he hnz
  go_wp2_with (at_make; (with_reducible refine wpList_make_full _ rfl (.tmp 30) (.tmp 30) 46 rfl (w.heap.size + 2) 4 i0 (.bool false) 1 under_bools hi hz0 hz1 .i64 .i64 bs.length bs.length bs.length rfl rfl rfl rfl (by rw [hz2]; omega) (by unfold maxLen; omega) (by first | assumption | (simp; done) | (simp; omega)) ?_; intro w2 hown hg); have hst : Below (w.heap.size + 2) w1 w2 := (Below.refl _ _).grown hg z1' (fun k h => by simp at h); have hrow := rowD_of hown; rw [made_bools] at hrow; have R2 := Lib.hid (R1.out.below hst (by omega)); have RR2 := Lib.hid (RR1.out.below hst (by omega)); have HROW := Lib.hid hrow; have hzg := hrow.lt; have q1' : w2.cell? ⟨w.heap.size, 1, none⟩ = some (.slice A2 bs.length c2) := R2.out.cell 1; have q2' : w2.cell? ⟨w.heap.size, 2, none⟩ = some (.slice A3 os.length c3) := R2.out.cell 2; have z2 : w.heap.size < w2.heap.size := (by omega); have N2 := Lib.hid (N1.out.trans (hst.mono (by omega))); clear hown hrow hst hg q1 q2)
  obtain ⟨g, hg⟩ : ∃ g, g = w1.heap.size := ⟨_, rfl⟩
  rw [← hg] at HROW hzg
  rw [← hg]
  have hgw : w.heap.size + 2 ≤ g := by omega
  clear hg q1' q2' R1 RR1 N1 z1 z1'
  go_loopw [35] (fun v wr => pg1 w bs os g w2 v wr) (fun v _ => os.length - (intOf v).toNat)
  case atStart => exact ⟨0, _, Nat.zero_le _, rfl, PrI.start _ _, HROW.out, Apart.refl _ _⟩
  case round =>
    obtain ⟨t, mm, ht, rfl, hpr, hrow, hap⟩ := hrel
    have HPR := Lib.hid hpr
    have HRW := Lib.hid hrow
    have zg := hrow.lt
    have R3 := Lib.hid (R2.out.apart hap (by omega))
    have RR3 := Lib.hid (RR2.out.apart hap (by omega))
    have N3 := Lib.hid (N2.out.trans (hap.below (by omega) (by omega)))
    have z3 : w.heap.size < wr.heap.size := R3.out.lt
    have q1 : wr.cell? ⟨w.heap.size, 1, none⟩ = some (.slice A2 bs.length c2) := R3.out.cell 1
    clear hpr hrow
    by_cases hlt : t < os.length
    · as_aux_lemma =>
      have hlti : (t : Int) < (os.length : Int) := by omega
      obtain ⟨ob, oo, z, rfl, hob, hob2, hz, gz⟩ := (HD.out.below N3.out hm).os.int_ hlt
      dsimp only at gz hz hob hob2
      have hzb := HOO.out z (List.mem_of_getElem? hz)
      obtain ⟨a, rfl⟩ := Int.eq_ofNat_of_zero_le hzb.1
      have haN : a < bs.length := by have := hzb.2; omega
      have q0 : wr.cell? ⟨w.heap.size, 0, none⟩ = some (.slice A1 ps.length c1) := R3.out.cell 0
      have q2 : wr.cell? ⟨w.heap.size, 2, none⟩ = some (.slice (some ⟨ob, oo, none⟩) os.length c3) := R3.out.cell 2
      have HZ := Lib.hid hz
      clear hz hzb
      go_wp2_with fail
      go_at_call 33
      refine (mark_any ⟨A1, ps, c1, A2, bs, c2, some ⟨ob, oo, none⟩, os, c3⟩ m g true (by omega) HOK.out (bs.length + 1) mm a wr (by have := unM_le mm; rw [HPR.out.len] at this; omega) HPR.out.len haN (HD.out.below N3.out hm) HRW.out).mono ?_
      rintro e w3 ⟨rfl, l', hp, hrow3, hap3⟩
      have HP := Lib.hid hp
      clear hp
      have N4 := Lib.hid hrow3
      have A4 := Lib.hid (hap.trans hap3)
      clear hrow3 hap hap3 q0 q1 q2 gz
      go_wp2_with fail
      exact ⟨⟨t + 1, l', by omega, by go_num, HPR.out.step HZ.out (by rw [Int.toNat_natCast]; exact HP.out), N4.out, A4.out⟩, by simp [intOf]; omega⟩
    · have hle : ¬ (t : Int) < (os.length : Int) := by omega
      have HM := Lib.hid (HPR.out.done HOK.out HOO.out (by omega))
      have hmln := HPR.out.len
      have HLL := Lib.hid hmln
      have z3' : w.heap.size + 2 ≤ wr.heap.size := by omega
      clear hap HPR R2 RR2 N2 HROW hmln
      go_wp2_with fail
      go_at_call 34
      rw [← HLL.out]
      refine (list_any (some ⟨g, 0, none⟩) mm mm.length wr.heap.size wr (Nat.le_refl _) (HRW.out.cells_ HRW.out.lt) (by have := HLL.out; omega)).mono ?_
      rintro e w4 ⟨v4, rfl, D4, hb4⟩
      obtain ⟨A4, c4, rfl, n4, hc4⟩ := D4.view
      have HQ4 := Lib.hid (D4.base_ (show w.heap.size + 2 ≤ wr.heap.size from z3'))
      have HC4 := Lib.hid hc4
      have R4 := Lib.hid (R3.out.call hb4)
      have RR4 := Lib.hid (RR3.out.call hb4)
      have N4 := Lib.hid (N3.out.trans (hb4.mono N3.out.size))
      have z4 : w.heap.size + 1 < w4.heap.size := RR4.out.lt
      have q1' : w4.cell? ⟨w.heap.size, 1, none⟩ = some (.slice A2 bs.length c2) := R4.out.cell 1
      clear D4 hc4 hb4 n4 q1 R3 RR3 N3
      rw [HLL.out]
      have hmk : natI (markL mm) = natI (keptL bs os) := by rw [HM.out]; rfl
      rw [hmk] at HC4 HQ4
      rw [hmk]
      rw [natI_len] at HQ4
      rw [natI_len]
      obtain ⟨L, hL⟩ : ∃ L, L = keptL bs os := ⟨_, rfl⟩
      rw [← hL] at HC4 HQ4
      rw [← hL]
      have HL := Lib.hid hL
      have HND := Lib.hid (show L.Nodup by rw [hL]; exact kept_nodup HE.out)
      have HLT := Lib.hid (show ∀ j ∈ L, j < bs.length by rw [hL]; exact fun j hj => keptL_lt hj)
      have hLn : L.length ≤ bs.length := by rw [hL]; exact keptL_len _ _
      clear hmk hL HM HRW zg hgw
      have z4' : w.heap.size + 2 ≤ w4.heap.size := by omega
      go_wp2_with (at_make; (with_reducible refine wpList_make_full _ rfl (.tmp 48) (.tmp 48) 24 rfl (w.heap.size + 2) 3 j0 (.int .i64 0) 1 under_ints hj hy0 hy1 .i64 .i64 bs.length bs.length bs.length rfl rfl rfl rfl (by rw [hy2]; omega) (by unfold maxLen; omega) (by first | assumption | (simp; done) | (simp; omega)) ?_; intro w5 hown hg); have hst : Below (w.heap.size + 2) w4 w5 := (Below.refl _ _).grown hg z4' (fun k h => by simp at h); have hst2 : Below w4.heap.size w4 w5 := (Below.refl _ _).grown hg (Nat.le_refl _) (fun k h => by simp at h); have hrow := rowD_of hown; rw [made_ints, ← numT_zero bs.length L] at hrow; have HQ5 := Lib.hid (HQ4.out.call hst2); have HQ5K := Lib.hid (show ∀ q, (Value.slice A4 L.length c4).ownBlock = some q → q < w4.heap.size from fun q hq => (World.ownsRow.lt HQ4.out q hq).2); have HQ5L := Lib.hid (show ∀ q, (Value.slice A4 L.length c4).ownBlock = some q → q ≠ w4.heap.size from fun q hq => Nat.ne_of_lt (World.ownsRow.lt HQ4.out q hq).2); have HC5 := Lib.hid (HC4.out.below hst2 (Nat.le_refl _)); have R5 := Lib.hid (R4.out.below hst (by omega)); have RR5 := Lib.hid (RR4.out.below hst (by omega)); have HGI := Lib.hid hrow; have zgi := hrow.lt; have N5 := Lib.hid (N4.out.trans (hst.mono (by omega))); clear hown hrow hst hst2 hg q1')
      obtain ⟨gi, hgi⟩ : ∃ gi, gi = w4.heap.size := ⟨_, rfl⟩
      rw [← hgi] at HGI HC5 zgi HQ5L HQ5K
      rw [← hgi]
      have hgiw : w.heap.size + 2 ≤ gi := by omega
      clear hgi HC4 HQ4 R4 RR4 N4 z4 z4'
      go_loopw [52] (fun v wr => pg2 bs.length L gi w5 v wr) (fun v _ => L.length - (intOf v).toNat)
      case atStart => exact ⟨0, Nat.zero_le _, rfl, HGI.out, Apart.refl _ _⟩
      case round =>
        clear HGI
        obtain ⟨t, ht, rfl, hgr, hap⟩ := hrel
        have HG := Lib.hid hgr
        have zg : gi < wr.heap.size := hgr.lt
        have gf : ∀ j, wr.frozen? ⟨gi, j, none⟩ = false := fun j => hgr.free j
        clear hgr
        by_cases hlt : t < L.length
        · as_aux_lemma =>
          have hlti : (t : Int) < (L.length : Int) := by omega
          obtain ⟨lb, lo, z, rfl, hlb, hlb2, hz, gz⟩ := (HC5.out.ap hap (Nat.le_refl _) (by omega)).int_ (k := t) (by rw [natI_len]; exact hlt)
          rw [natI_get] at hz
          obtain ⟨j, hj', rfl⟩ := Option.map_eq_some_iff.1 hz
          have HJ := Lib.hid hj'
          have hjn : j < bs.length := HLT.out j (List.mem_of_getElem? hj')
          have hji : (j : Int) < (bs.length : Int) := by omega
          have hcj : wr.cell? ⟨gi, j, none⟩ = some (.int .i64 ((numT bs.length L t)[j]?.getD 0)) := by
            have h1 : j < (numT bs.length L t).length := by rw [numT_len]; exact hjn
            rw [HG.out.cell, List.getElem?_eq_getElem h1]
            exact ints_get (List.getElem?_eq_getElem h1)
          clear hz hj'
          go_wp2_with fail
          exact ⟨⟨t + 1, by omega, by go_num, by rw [← numT_set HND.out HJ.out, ints_set]; exact HG.out.set_ j _, hap.trans (Apart.set _)⟩, by simp [intOf]; omega⟩
        · have hle : ¬ (t : Int) < (L.length : Int) := by omega
          have e : t = L.length := by omega
          subst e
          have HQ6 := Lib.hid (HQ5.out.apart' hap HQ5L.out)
          have R6 := Lib.hid (R5.out.apart hap (by omega))
          have RR6 := Lib.hid (RR5.out.apart hap (by omega))
          have N6 := Lib.hid (N5.out.trans (hap.below (by omega) (by omega)))
          have HC6 := Lib.hid (HC5.out.ap hap (Nat.le_refl _) (by omega))
          have q0 : wr.cell? ⟨w.heap.size, 0, none⟩ = some (.slice A1 ps.length c1) := R6.out.cell 0
          have z6 : w.heap.size < wr.heap.size := R6.out.lt
          have HP6 := Lib.hid (HD.out.below N6.out hm).ps
          have HWE := Lib.hid (show w.heap.size + 2 ≤ wr.heap.size by omega)
          clear hap HC5 HQ5 R5 RR5 N5 gf
          go_wp2_with (at_builtin; refine app_ports rfl (.tmp 62) (.tmp 64) rfl wr.heap.size _ [] ps A1 c1 m rfl (OwnP.lit0 (Nat.le_refl _)) rfl HN1.out (HP6.out.below (al_ _ _) (by omega)) (by simpa using hl1) (by simp) ?_; intro v7 w7 hown7 hg7 hb7; rw [List.nil_append] at hown7; obtain ⟨A7, c7, rfl, n7, hc7⟩ := hown7.view; have HC7 := Lib.hid hc7; have HNP := Lib.hid n7; have HP7L := Lib.hid (show ∀ a : Addr, A7 = some a → wr.heap.size ≤ a.block from fun a ha => (World.ownsRow.lt hown7 a.block (by rw [ha]; rfl)).1); have hz7 := hb7.size; have HB7 := Lib.hid (Below.trans ((Below.refl wr.heap.size wr).alloc (Nat.le_refl _) _) hb7); clear hown7 hg7 hb7 hc7 n7 q0)
          have hz7' : wr.heap.size ≤ w7.heap.size := HB7.out.size
          have R7 := Lib.hid (R6.out.call HB7.out)
          have RR7 := Lib.hid (RR6.out.call HB7.out)
          have HQ7 := Lib.hid (HQ6.out.call HB7.out)
          have N7 := Lib.hid (N6.out.trans (HB7.out.mono N6.out.size))
          have HC7k := Lib.hid (HC6.out.below HB7.out (by omega))
          have HG7 := Lib.hid (HG.out.call HB7.out)
          have HP7M := Lib.hid (show ∀ a : Addr, A7 = some a → w.heap.size + 1 < a.block from fun a ha => by have := HP7L.out a ha; have := HWE.out; omega)
          clear HQ6 R6 RR6 N6 HC6 HP6 HB7 HG hz7 HP7L
          obtain ⟨OB, hOB⟩ : ∃ OB, OB = w7.heap.size := ⟨_, rfl⟩
          obtain ⟨W7, hW7⟩ : ∃ W, W = w7.alloc (.cells #[.slice A7 ps.length c7, .slice none 0 0, .slice none 0 0] 26) := ⟨_, rfl⟩
          have hz7s : W7.heap.size = w7.heap.size + 1 := by rw [hW7]; simp
          have RO := Lib.hid (RowD.new_ w7 [.slice A7 ps.length c7, .slice none 0 0, .slice none 0 0] 26)
          have b7 := al_ w7 (.cells #[.slice A7 ps.length c7, .slice none 0 0, .slice none 0 0] 26)
          have R8 := Lib.hid (R7.out.call b7)
          have RR8 := Lib.hid (RR7.out.call b7)
          have HQ8 := Lib.hid (HQ7.out.call b7)
          have HQ8L := Lib.hid (show ∀ q, (Value.slice A4 L.length c4).ownBlock = some q → q < gi from HQ5K.out)
          have N8 := Lib.hid (N7.out.trans (b7.mono N7.out.size))
          have HC8k := Lib.hid (HC7k.out.below b7 (by omega))
          have HC8 := Lib.hid (HC7.out.below b7 (Nat.le_refl _))
          have HGI9 := Lib.hid (HG7.out.call b7)
          rw [← hW7] at RO R8 RR8 HQ8 N8 HC8k HC8 HGI9
          rw [← hOB] at RO HC8
          rw [← hW7, ← hOB]
          have hgiO : gi < OB := by omega
          have hOW : W7.heap.size = OB + 1 := by omega
          have HOW := Lib.hid hOW
          have hmO : m ≤ OB := by omega
          have hwO : w.heap.size + 1 < OB := by omega
          clear hOB hW7 hz7s b7 HQ7 R7 RR7 N7 HC7k HG7 HC7 hz7' z6 zg hOW hgiw zgi
          go_loopw [69] (fun v wr => pg3 bs L (.slice A7 ps.length c7) OB W7 v wr) (fun v _ => L.length - (intOf v).toNat)
          case atStart => exact ⟨0, _, [], Nat.zero_le _, rfl, RO.out, OwnB.nil_ _ _, rfl, ⟨by simp⟩, Below.refl _ _⟩
          case round =>
            clear RO
            obtain ⟨k, V, l, hk, rfl, hro, hv, hlc, hbo, hb⟩ := hrel
            have HO := Lib.hid hro
            have HV := Lib.hid hv
            have HLC := Lib.hid hlc
            have HBO := Lib.hid hbo
            have HB := Lib.hid hb
            have zo : OB < wr.heap.size := hro.lt
            have HLK := Lib.hid (show l.length = k by have h1 := core_len hlc; rw [wantK_len hk] at h1; exact h1)
            have N9 := Lib.hid (N8.out.trans (hb.mono (by omega)))
            have HG9 := Lib.hid (HGI9.out.below hb hgiO)
            have R9 := Lib.hid (R8.out.below hb (by omega))
            have q1 : wr.cell? ⟨w.heap.size, 1, none⟩ = some (.slice A2 bs.length c2) := R9.out.cell 1
            have z9 : w.heap.size < wr.heap.size := R9.out.lt
            have zgi : gi < wr.heap.size := HG9.out.lt
            have HC9k := Lib.hid (HC8k.out.below hb (Nat.le_of_lt hgiO))
            clear hro hv hlc hbo
            by_cases hlt : k < L.length
            · have hki : (k : Int) < (L.length : Int) := by omega
              have HLL := Lib.hid (show l.length < 1000000 by have := HLK.out; omega)
              obtain ⟨lb, lo, zk, rfl, hlb, hlb2, hz, gz⟩ := HC9k.out.int_ (k := k) (by rw [natI_len]; exact hlt)
              rw [natI_get] at hz
              obtain ⟨i, hi', rfl⟩ := Option.map_eq_some_iff.1 hz
              have HKI := Lib.hid hi'
              have hil : i < bs.length := HLT.out i (List.mem_of_getElem? hi')
              clear hz hi'
              obtain ⟨b, off, kind, B, args, cap, vn, ve, un, ue, hA2, hbm, hbs, hx, g0, g1, g2, g3, g4, g5, ha, hal⟩ := (HD.out.below N9.out hm).blk hil
              dsimp only at hA2 hx
              subst hA2
              have HX := Lib.hid hx
              have HA4 := Lib.hid ha
              have HA0 := Lib.hid (show ∀ z ∈ args, 0 ≤ z from fun z hz => by
                have h1 := (blk_args (dg_blk HE.out HX.out)).2.2 z hz
                exact h1.1)
              clear hx ha
              by_cases hk0 : kind = 0
              · subst hk0
                obtain ⟨zs, hzs⟩ : ∃ zs : List Int, zs = (if (0 : Int) = 0 then args else args.map (renA L)) := ⟨_, rfl⟩
                have HZS := Lib.hid hzs
                have HZN := Lib.hid (show zs.length = args.length by rw [hzs, if_pos rfl])
                have HZL := Lib.hid (show zs.length ≤ 1000000 by rw [HZN.out]; exact hal)
                clear hzs
                obtain ⟨S, hS⟩ : ∃ S, S = wr.heap.size := ⟨_, rfl⟩
                have HS := Lib.hid hS
                have hgiS : gi < S := by omega
                have hOBS : OB < S := by omega
                have hmS : m ≤ S := by omega
                have hiS : (i : Int) < (bs.length : Int) := by omega
                clear hS
                go_wp2_with fail
                rw [← HZN.out]
                have HBX := Lib.hid (RowD.new_ wr [.int .i64 0, .slice B zs.length cap, .int .i64 vn, .int .i64 ve, .int .i64 un, .int .i64 ue] 44)
                rw [← HS.out] at HBX
                rw [← HS.out]
                obtain ⟨wo, rfl⟩ : ∃ wo : World, wo = wr := ⟨_, rfl⟩
                go_loopw [17, 81] (fun v17 v81 w9 => pg4 S [.int .i64 0, .slice B zs.length cap, .int .i64 vn, .int .i64 ve, .int .i64 un, .int .i64 ue] zs wo v17 v81 w9) (fun _ v81 _ => zs.length - (intOf v81).toNat)
                case atStart => exact ⟨0, _, Nat.zero_le _, rfl, rfl, OwnI.nil_ _ _, HBX.out, by rw [HS.out]; exact al_ _ _⟩
                case round =>
                  clear HBX
                  obtain ⟨t, v17, ht, rfl, rfl, hv9, hs9, h9b⟩ := hrel
                  have HV9 := Lib.hid hv9
                  have HS9 := Lib.hid hs9
                  have zS9 : S < wr.heap.size := hs9.lt
                  have q0 : wr.cell? ⟨S, 0, none⟩ = some (.int .i64 0) := hs9.cell 0
                  clear hv9 hs9
                  by_cases hlt4 : t < zs.length
                  · as_aux_lemma =>
                    have hzl := HZL.out
                    have hlti : (t : Int) < (zs.length : Int) := by omega
                    have hlta : t < args.length := by have := HZN.out; omega
                    obtain ⟨ab, ao, z, rfl, hab, hab2, hz, gz⟩ := (HA4.out.below h9b hmS).int_ hlta
                    have hz0 : 0 ≤ z := HA0.out z (List.mem_of_getElem? hz)
                    obtain ⟨a, rfl⟩ := Int.eq_ofNat_of_zero_le hz0
                    clear hz0 hlta
                    have HZT := Lib.hid (show zs[t]? = some (a : Int) from by rw [HZS.out]; first | (rw [if_pos rfl]; exact hz) | simpa using hz)
                    clear hz
                    go_wp2_with (at_builtin; go_loud (refine push_int rfl (.tmp 92) (.tmp 94) rfl (S + 1) _ (zs.take t) (a : Int) wr.heap.size rfl (HV9.out.alloc _) rfl (by simp [go_sem]) (by have := HZL.out; rw [List.length_take]; omega) (by simp; omega) ?_); intro v' w10 hown hg hb10)
                    refine ⟨⟨t + 1, v', by omega, by go_num, rfl, ?_, (HS9.out.al _).below hb10 (by omega), (h9b.alloc (by have := HS9.out.lt; omega) _).trans (hb10.mono (by omega))⟩, by simp [intOf]; omega⟩
                    rw [List.take_add_one, HZT.out]
                    exact hown
                  · have hle : ¬ (t : Int) < (zs.length : Int) := by omega
                    have ht9 : zs.take t = zs := List.take_of_length_le (by omega)
                    rw [ht9] at HV9
                    obtain ⟨A17, c17, rfl, hn17, _⟩ := HV9.out.view
                    have q1 : wr.cell? ⟨S, 1, none⟩ = some (.slice B zs.length cap) := HS9.out.cell 1
                    have q2 : wr.cell? ⟨S, 2, none⟩ = some (.int .i64 vn) := HS9.out.cell 2
                    have q3 : wr.cell? ⟨S, 3, none⟩ = some (.int .i64 ve) := HS9.out.cell 3
                    have q4 : wr.cell? ⟨S, 4, none⟩ = some (.int .i64 un) := HS9.out.cell 4
                    have q5 : wr.cell? ⟨S, 5, none⟩ = some (.int .i64 ue) := HS9.out.cell 5
                    have qf : ∀ j, wr.frozen? ⟨S, j, none⟩ = false := fun j => HS9.out.free j
                    have HO9 := Lib.hid (HO.out.below h9b hOBS)
                    have o1 : wr.cell? ⟨OB, 1, none⟩ = some V := HO9.out.cell 1
                    have of : ∀ j, wr.frozen? ⟨OB, j, none⟩ = false := fun j => HO9.out.free j
                    have zO9 : OB < wr.heap.size := by omega
                    have HVb := Lib.hid (HV.out.call (show Below wo.heap.size wo (wr.setCell ⟨S, 1, none⟩ (.slice A17 zs.length c17)) from by rw [← HS.out]; exact h9b.setCell (p := ⟨S, 1, none⟩) (Nat.le_refl _) _))
                    have HXC := Lib.hid (show core ⟨0, A17, zs, c17, vn, ve, un, ue⟩ = core (prB L ⟨0, B, args, cap, vn, ve, un, ue⟩) from by rw [HZS.out]; rfl)
                    have hSO : S ≠ OB := by omega
                    clear ht9 hn17
                    go_wp2_with (at_builtin; refine push_bk rfl (.tmp 100) (.tmp 102) rfl (OB + 1) V l ⟨0, A17, zs, c17, vn, ve, un, ue⟩ wr.heap.size rfl (HVb.out.alloc _) rfl (by intro j u hu; rcases j with _ | _ | _ | _ | _ | _ | j <;> simp [Bk.cells] at hu <;> (subst hu; simp [go_sem])) (by have := HLL.out; omega) (by first | (simp; omega) | simp | omega) ?_; intro v' w10 hown10 hg10 hb10; obtain ⟨qc, qff, qs, qz⟩ := ext_at (m := OB + 1) hb10 (by first | (simp; omega) | simp | omega) (by first | (simp; omega) | simp | omega); obtain ⟨A10', c10', rfl, _, _⟩ := hown10.view)
                    have HH9 := HS.out
                    subst HH9
                    exact ⟨pg3_low _ HO.out HV.out HLC.out HBO.out hb HKI.out HX.out h9b HV9.out HXC.out HZL.out rfl hg10 hb10 (by simpa using hown10), by simp [intOf]; omega⟩
              · have n0 : (kind != 0) = true := by simpa using hk0
                have HK0 := Lib.hid hk0
                clear hk0
                obtain ⟨zs, hzs⟩ : ∃ zs : List Int, zs = (if (kind : Int) = 0 then args else args.map (renA L)) := ⟨_, rfl⟩
                have HZS := Lib.hid hzs
                have HZN := Lib.hid (show zs.length = args.length by rw [hzs, if_neg HK0.out]; simp)
                have HZL := Lib.hid (show zs.length ≤ 1000000 by rw [HZN.out]; exact hal)
                clear hzs
                obtain ⟨S, hS⟩ : ∃ S, S = wr.heap.size := ⟨_, rfl⟩
                have HS := Lib.hid hS
                have hgiS : gi < S := by omega
                have hOBS : OB < S := by omega
                have hmS : m ≤ S := by omega
                have hiS : (i : Int) < (bs.length : Int) := by omega
                clear hS
                go_wp2_with fail
                rw [← HZN.out]
                have HBX := Lib.hid (RowD.new_ wr [.int .i64 kind, .slice B zs.length cap, .int .i64 vn, .int .i64 ve, .int .i64 un, .int .i64 ue] 44)
                rw [← HS.out] at HBX
                rw [← HS.out]
                obtain ⟨wo, rfl⟩ : ∃ wo : World, wo = wr := ⟨_, rfl⟩
                go_loopw [17, 81] (fun v17 v81 w9 => pg4 S [.int .i64 kind, .slice B zs.length cap, .int .i64 vn, .int .i64 ve, .int .i64 un, .int .i64 ue] zs wo v17 v81 w9) (fun _ v81 _ => zs.length - (intOf v81).toNat)
                case atStart => exact ⟨0, _, Nat.zero_le _, rfl, rfl, OwnI.nil_ _ _, HBX.out, by rw [HS.out]; exact al_ _ _⟩
                case round =>
                  clear HBX
                  obtain ⟨t, v17, ht, rfl, rfl, hv9, hs9, h9b⟩ := hrel
                  have HV9 := Lib.hid hv9
                  have HS9 := Lib.hid hs9
                  have zS9 : S < wr.heap.size := hs9.lt
                  have q0 : wr.cell? ⟨S, 0, none⟩ = some (.int .i64 kind) := hs9.cell 0
                  clear hv9 hs9
                  by_cases hlt4 : t < zs.length
                  · as_aux_lemma =>
                    have hzl := HZL.out
                    have hlti : (t : Int) < (zs.length : Int) := by omega
                    have hlta : t < args.length := by have := HZN.out; omega
                    obtain ⟨ab, ao, z, rfl, hab, hab2, hz, gz⟩ := (HA4.out.below h9b hmS).int_ hlta
                    have hz0 : 0 ≤ z := HA0.out z (List.mem_of_getElem? hz)
                    obtain ⟨a, rfl⟩ := Int.eq_ofNat_of_zero_le hz0
                    clear hz0 hlta
                    have HZT := Lib.hid (show zs[t]? = some (renA L (a : Int)) from by rw [HZS.out, if_neg HK0.out, List.getElem?_map, hz]; rfl)
                    have haN : a < bs.length := by
                      have h := HOK.out i hil (a : Int) (by rw [preds_of HX.out, if_neg HK0.out]; exact List.mem_of_getElem? hz)
                      omega
                    have haI : (a : Int) < (bs.length : Int) := by omega
                    have hca : wr.cell? ⟨gi, a, none⟩ = some (.int .i64 (renA L (a : Int))) := by rw [(h9b.cell (p := ⟨gi, a, none⟩) (by show gi < S; omega)), HG9.out.cell]; exact ints_get (numT_get haN)
                    clear hz
                    go_wp2_with (at_builtin; go_loud (refine push_int rfl (.tmp 92) (.tmp 94) rfl (S + 1) _ (zs.take t) (renA L (a : Int)) wr.heap.size rfl (HV9.out.alloc _) rfl (by simp [go_sem]) (by have := HZL.out; rw [List.length_take]; omega) (by simp; omega) ?_); intro v' w10 hown hg hb10)
                    refine ⟨⟨t + 1, v', by omega, by go_num, rfl, ?_, (HS9.out.al _).below hb10 (by omega), (h9b.alloc (by have := HS9.out.lt; omega) _).trans (hb10.mono (by omega))⟩, by simp [intOf]; omega⟩
                    rw [List.take_add_one, HZT.out]
                    exact hown
                  · have hle : ¬ (t : Int) < (zs.length : Int) := by omega
                    have ht9 : zs.take t = zs := List.take_of_length_le (by omega)
                    rw [ht9] at HV9
                    obtain ⟨A17, c17, rfl, hn17, _⟩ := HV9.out.view
                    have q1 : wr.cell? ⟨S, 1, none⟩ = some (.slice B zs.length cap) := HS9.out.cell 1
                    have q2 : wr.cell? ⟨S, 2, none⟩ = some (.int .i64 vn) := HS9.out.cell 2
                    have q3 : wr.cell? ⟨S, 3, none⟩ = some (.int .i64 ve) := HS9.out.cell 3
                    have q4 : wr.cell? ⟨S, 4, none⟩ = some (.int .i64 un) := HS9.out.cell 4
                    have q5 : wr.cell? ⟨S, 5, none⟩ = some (.int .i64 ue) := HS9.out.cell 5
                    have qf : ∀ j, wr.frozen? ⟨S, j, none⟩ = false := fun j => HS9.out.free j
                    have HO9 := Lib.hid (HO.out.below h9b hOBS)
                    have o1 : wr.cell? ⟨OB, 1, none⟩ = some V := HO9.out.cell 1
                    have of : ∀ j, wr.frozen? ⟨OB, j, none⟩ = false := fun j => HO9.out.free j
                    have zO9 : OB < wr.heap.size := by omega
                    have HVb := Lib.hid (HV.out.call (show Below wo.heap.size wo (wr.setCell ⟨S, 1, none⟩ (.slice A17 zs.length c17)) from by rw [← HS.out]; exact h9b.setCell (p := ⟨S, 1, none⟩) (Nat.le_refl _) _))
                    have HXC := Lib.hid (show core ⟨kind, A17, zs, c17, vn, ve, un, ue⟩ = core (prB L ⟨kind, B, args, cap, vn, ve, un, ue⟩) from by rw [HZS.out]; rfl)
                    have hSO : S ≠ OB := by omega
                    clear ht9 hn17
                    go_wp2_with (at_builtin; refine push_bk rfl (.tmp 100) (.tmp 102) rfl (OB + 1) V l ⟨kind, A17, zs, c17, vn, ve, un, ue⟩ wr.heap.size rfl (HVb.out.alloc _) rfl (by intro j u hu; rcases j with _ | _ | _ | _ | _ | _ | j <;> simp [Bk.cells] at hu <;> (subst hu; simp [go_sem])) (by have := HLL.out; omega) (by first | (simp; omega) | simp | omega) ?_; intro v' w10 hown10 hg10 hb10; obtain ⟨qc, qff, qs, qz⟩ := ext_at (m := OB + 1) hb10 (by first | (simp; omega) | simp | omega) (by first | (simp; omega) | simp | omega); obtain ⟨A10', c10', rfl, _, _⟩ := hown10.view)
                    have HH9 := HS.out
                    subst HH9
                    exact ⟨pg3_low _ HO.out HV.out HLC.out HBO.out hb HKI.out HX.out h9b HV9.out HXC.out HZL.out rfl hg10 hb10 (by simpa using hown10), by simp [intOf]; omega⟩
            · have hle : ¬ (k : Int) < (L.length : Int) := by omega
              have e : k = L.length := by omega
              subst e
              have HPV := Lib.hid (HC8.out.below hb (Nat.le_refl _))
              have R10 := Lib.hid (R8.out.below hb (by omega))
              have RR10 := Lib.hid (RR8.out.below hb (by omega))
              have HQ10 := Lib.hid (HQ8.out.below hb (fun q hq => by have := HQ8L.out q hq; omega))
              have q2 : wr.cell? ⟨w.heap.size, 2, none⟩ = some (.slice A3 os.length c3) := R10.out.cell 2
              have HWS := Lib.hid (show w.heap.size + 2 ≤ wr.heap.size by omega)
              have HDO := Lib.hid (HD.out.below N9.out hm).os
              clear hb
              go_wp2_with fail
              obtain ⟨w3, rfl⟩ : ∃ w3 : World, w3 = wr := ⟨_, rfl⟩
              obtain ⟨zs, hzs⟩ : ∃ zs, zs = prOs bs os := ⟨_, rfl⟩
              have HZS := Lib.hid hzs
              have HZN := Lib.hid (show zs.length = os.length by rw [hzs]; simp [prOs])
              have hz3 : OB < w3.heap.size := zo
              clear hzs q1 q2 z9 zgi
              rw [← HZN.out]
              go_loopw [109] (fun v wr => pg5 zs (.slice A7 ps.length c7) V OB w3 v wr) (fun v _ => zs.length - (intOf v).toNat)
              case atStart => exact ⟨0, _, Nat.zero_le _, rfl, HO.out, OwnI.nil_ _ _, Apart.refl _ _⟩
              case round =>
                obtain ⟨t, V5, ht, rfl, hro, hv5, hap⟩ := hrel
                have HO5 := Lib.hid hro
                have HV5 := Lib.hid hv5
                have zo5 : OB < wr.heap.size := hro.lt
                have o2 : wr.cell? ⟨OB, 2, none⟩ = some V5 := hro.cell 2
                have of : ∀ j, wr.frozen? ⟨OB, j, none⟩ = false := fun j => hro.free j
                have hs5 : w3.heap.size ≤ wr.heap.size := hap.size
                clear hro hv5
                by_cases hlt : t < zs.length
                · as_aux_lemma =>
                  have hlti : (t : Int) < (zs.length : Int) := by omega
                  have hlto : t < os.length := by have := HZN.out; omega
                  obtain ⟨ab, ao, z, rfl, hab, hab2, hz, gz⟩ := (HDO.out.ap hap hmO (by omega)).int_ hlto
                  have hzb := HOO.out z (List.mem_of_getElem? hz)
                  obtain ⟨a, rfl⟩ := Int.eq_ofNat_of_zero_le hzb.1
                  have haN : a < bs.length := by have := hzb.2; omega
                  have haI : (a : Int) < (bs.length : Int) := hzb.2
                  have HZT := Lib.hid (show zs[t]? = some (renA L (a : Int)) from by rw [HZS.out, prOs, List.getElem?_map, hz, HL.out]; rfl)
                  have hca : wr.cell? ⟨gi, a, none⟩ = some (.int .i64 (renA L (a : Int))) := by rw [((HG9.out.apart hap (by omega)).cell a)]; exact ints_get (numT_get haN)
                  have hgi5 : gi < wr.heap.size := by omega
                  have HZL := Lib.hid (show (zs.take t).length < 1000000 by rw [List.length_take]; omega)
                  have HLN5 := Lib.hid (show (zs.take t ++ [renA L (a : Int)]).length = t + 1 by simp; omega)
                  have hzl : zs.length ≤ 1000000 := by have := HZN.out; omega
                  clear hz hzb hlto
                  go_wp2_with fail
                  go_region_law (refine step_pushI rfl (.tmp 114) (.tmp 119) rfl w3.heap.size V5 (zs.take t) (renA L (a : Int)) wr.heap.size rfl (HV5.out.alloc _) rfl (by simp [go_sem]) HZL.out (by first | (simp; omega) | simp | omega) ?_; intro v' w10 hown hg10 hb10; obtain ⟨qc, qff, qs, qz⟩ := ext_at (m := w3.heap.size) hb10 (by first | (simp; omega) | simp | omega) (by first | (simp; omega) | simp | omega); obtain ⟨A10', c10', hv10, _, _⟩ := hown.view; rw [HLN5.out] at hv10; subst hv10)
                  all_goals
                    go_wp2_with fail
                    exact ⟨pg5_low HO5.out hap hown HZT.out hb10 hz3, by simp [intOf]; omega⟩
                · have hle : ¬ (t : Int) < (zs.length : Int) := by omega
                  have htz : zs.take t = zs := List.take_of_length_le (by omega)
                  rw [htz] at HV5
                  obtain ⟨A5, c5, rfl, _, hc5⟩ := HV5.out.view
                  have hva := HV.out.apart hap (by omega)
                  obtain ⟨AB, cB, rfl, _, hcB⟩ := hva.view
                  have HVA := Lib.hid hva
                  have HC5 := Lib.hid hc5
                  have HCB := Lib.hid hcB
                  have RR11 := Lib.hid (RR10.out.apart hap (by omega))
                  have HQ11 := Lib.hid (HQ10.out.apart' hap (fun q hq => by have := HQ8L.out q hq; omega))
                  have HBO5 := Lib.hid (show BkOwn wr (OB + 1) l from ⟨fun x hx => ⟨(HBO.out.args x hx).1.apart hap (by omega), (HBO.out.args x hx).2⟩⟩)
                  have HPV5 := Lib.hid (show CellsAt wr OB A7 (flat Prt.cells ps) from HPV.out.ap hap (Nat.le_refl _) (by omega))
                  have N11 := Lib.hid (N9.out.trans (hap.below (by omega) (by omega)))
                  have p0 : wr.cell? ⟨OB, 0, none⟩ = some (.slice A7 ps.length c7) := HO5.out.cell 0
                  have p1 : wr.cell? ⟨OB, 1, none⟩ = some (.slice AB l.length cB) := HO5.out.cell 1
                  have p2 : wr.cell? ⟨OB, 2, none⟩ = some (.slice A5 zs.length c5) := HO5.out.cell 2
                  have r0 : wr.cell? ⟨w.heap.size + 1, 0, none⟩ = some (.slice none 0 0) := RR11.out.cell 0
                  have r1 : wr.cell? ⟨w.heap.size + 1, 1, none⟩ = some (.slice none 0 0) := RR11.out.cell 1
                  have r2 : wr.cell? ⟨w.heap.size + 1, 2, none⟩ = some (.slice none 0 0) := RR11.out.cell 2
                  have rf : ∀ j, wr.frozen? ⟨w.heap.size + 1, j, none⟩ = false := fun j => RR11.out.free j
                  have zrr : w.heap.size + 1 < wr.heap.size := RR11.out.lt
                  have RF := Lib.hid (((RR11.out.set_ 0 (.slice A7 ps.length c7)).set_ 1 (.slice AB l.length cB)).set_ 2 (.slice A5 zs.length c5))
                  clear hap hc5 hcB htz o2 hva
                  go_wp2_with fail
                  have hg2 : w.heap.size + 1 < OB + 1 := by omega
                  have hsz := size3 wr (w.heap.size + 1) (.slice A7 ps.length c7) (.slice AB l.length cB) (.slice A5 zs.length c5)
                  obtain ⟨hd', hn'⟩ := DgAt.made (w := ((wr.setCell ⟨w.heap.size + 1, 0, none⟩ (.slice A7 ps.length c7)).setCell ⟨w.heap.size + 1, 1, none⟩ (.slice AB l.length cB)).setCell ⟨w.heap.size + 1, 2, none⟩ (.slice A5 zs.length c5)) (base := OB + 1) (PA := A7) (BA := AB) (OA := A5) (ps := ps) (l := l) (os := zs) (c1 := c7) (c2 := cB) (c3 := c5)
                    ((HPV5.out.set3 (fun a ha => by have := HP7M.out a ha; omega) _ _ _).more (by rw [hsz]; omega)) (HVA.out.set3 hg2 _ _ _).cells_ (HV5.out.set3 (by omega) _ _ _).cells ⟨fun x hx => ⟨(HBO5.out.args x hx).1.set3 hg2 _ _ _, (HBO5.out.args x hx).2⟩⟩ hl1 (by have := HLK.out; omega) (by have := HZN.out; omega) HNP.out
                  refine bodyPost_ret (res_prune (v3 := .slice A4 L.length c4) (v4 := .nilIface) rfl rfl rfl RF.out) rfl ⟨⟨A7, ps, c7, AB, l, cB, A5, zs, c5⟩, .slice A4 L.length c4, rfl, hd', hn', rfl, ?_, HZS.out, ?_, ?_⟩
                  · rw [HLC.out]
                    unfold wantK prBs
                    rw [List.take_length, HL.out]
                  · rw [← HL.out]
                    exact (HQ11.out.set3 (by omega) _ _ _).base_ (by omega)
                  · exact ((N11.out.setCell (p := ⟨w.heap.size + 1, 0, none⟩) (by show w.heap.size ≤ w.heap.size + 1; omega) _).setCell (p := ⟨w.heap.size + 1, 1, none⟩) (by show w.heap.size ≤ w.heap.size + 1; omega) _).setCell (p := ⟨w.heap.size + 1, 2, none⟩) (by show w.heap.size ≤ w.heap.size + 1; omega) _
end Go.Proofs.YtaheedieingpiaaDoor
namespace Go.Proofs.YtaheedieingpiaaDoor
set_option linter.unusedVariables false
set_option linter.unusedSimpArgs false
set_option linter.unusedSectionVars false
open Go.RowKit

def RPruneP (ps : List Prt) (l : List Bk) (os : List Int) (kept : List Int) (w : World) (e : Ending) (w' : World) : Prop :=
  ∃ (d' : Dg) (v : Value), e = .returned (.tuple #[d'.val, v]) ∧ DgAt w' w'.heap.size d' ∧ Nz d' ∧ d'.ps = ps ∧ d'.bs.map core = l.map core ∧ d'.os = os ∧ OwnI w' w.heap.size v kept ∧ Below w.heap.size w w'
theorem res_rprune {tmps : Array Value} {w : World} {b : Nat} {v0 v1 v2 v3 : Value} (h2 : tmps.getD 2 undef = .pointer (some ⟨b, 0, none⟩)) (h3 : tmps.getD 3 undef = v3) (hB : RowD w b [v0, v1, v2] 26) :
    (results Tryd.f22 tmps).run Tryd.prog w = .ok (.tuple #[.agg #[v0, v1, v2], v3]) w := by
  have k0 := hB.cell 0
  have k1 := hB.cell 1
  have k2 := hB.cell 2
  simp at k0 k1 k2
  simp at h2 h3
  simp [results, Tryd.results22, go_sem, h2, h3, k0, k1, k2]
theorem OwnI.lit0n {w : World} {base n : Nat} (hn : w.heap.size = n) (h : base ≤ n) : OwnI (w.alloc (.cells #[] 3)) base (.slice (some ⟨n, 0, none⟩) 0 0) [] := by
  subst hn
  exact OwnI.lit0 h
theorem OwnI.put {w : World} {base g n c : Nat} {xs : List Int} (h : OwnI w base (.slice (some ⟨g, 0, none⟩) n c) xs) (hn : n = xs.length) (j : Nat) (z : Int) : OwnI (w.setCell ⟨g, j, none⟩ (.int .i64 z)) base (.slice (some ⟨g, 0, none⟩) n c) (xs.set j z) := by
  subst hn
  have h2 : w.ownsRow base 3 1 (.slice (some ⟨g, 0, none⟩) xs.length c) xs.length (ints xs) := h
  have h3 := (World.ownsRow.stored h2 j (.int .i64 z)).1
  unfold OwnI
  rw [ints_set, List.length_set]
  exact h3
theorem OwnI.freeA {w : World} {base g n c : Nat} {xs : List Int} (h : OwnI w base (.slice (some ⟨g, 0, none⟩) n c) xs) (hn : n = xs.length) (j : Nat) : w.frozen? ⟨g, j, none⟩ = false := by
  subst hn
  have h2 : w.ownsRow base 3 1 (.slice (some ⟨g, 0, none⟩) xs.length c) xs.length (ints xs) := h
  exact World.ownsRow.frozenAt h2 j
theorem OwnI.cellA {w : World} {base g n c j : Nat} {z : Int} {xs : List Int} (h : OwnI w base (.slice (some ⟨g, 0, none⟩) n c) xs) (hz : xs[j]? = some z) : w.cell? ⟨g, j, none⟩ = some (.int .i64 z) := by
  have hj : j < xs.length := (List.getElem?_eq_some_iff.1 hz).1
  obtain ⟨b, off, z', hA, _, _, hx, hcc⟩ := h.cells.int_ hj
  cases hA
  rw [hz] at hx
  cases hx
  simpa using hcc
theorem OwnI.some_ {w : World} {base n c : Nat} {A : Option Addr} {xs : List Int} (h : OwnI w base (.slice A n c) xs) (hp : 0 < xs.length) : ∃ g, A = some ⟨g, 0, none⟩ ∧ base ≤ g ∧ g < w.heap.size := by
  rcases h.2 with ⟨he, h0⟩ | ⟨g, cap, cur, he, hb, hg, _⟩
  · omega
  · simp only [Value.slice.injEq] at he
    exact ⟨g, he.1, hb, (Array.getElem?_eq_some_iff.1 hg).1⟩
def mix (zs args : List Int) (t : Nat) : List Int := zs.take t ++ args.drop t
theorem mix_len {zs args : List Int} {t : Nat} (h : zs.length = args.length) (ht : t ≤ args.length) : (mix zs args t).length = args.length := by simp [mix]; omega
theorem mix_get {zs args : List Int} {t : Nat} (h : zs.length = args.length) {a : Int} (ha : args[t]? = some a) : (mix zs args t)[t]? = some a := by
  have ht := (List.getElem?_eq_some_iff.1 ha).1
  unfold mix
  rw [List.getElem?_append_right (by simp; omega)]
  simp only [List.length_take, List.getElem?_drop]
  rw [← ha]
  congr 1
  omega
theorem mix_set {zs args : List Int} {t : Nat} (h : zs.length = args.length) {z : Int} (hz : zs[t]? = some z) : (mix zs args t).set t z = mix zs args (t + 1) := by
  have ht := (List.getElem?_eq_some_iff.1 hz).1
  unfold mix
  rw [List.set_append_right _ _ (by simp; omega), List.take_add_one, hz]
  have e : t - (List.take t zs).length = 0 := by simp; omega
  rw [e, List.drop_eq_getElem_cons (by omega), List.set_cons_zero]
  simp
theorem mix_all {zs args : List Int} {t : Nat} (h : zs.length = args.length) (ht : args.length ≤ t) : mix zs args t = zs := by
  unfold mix
  rw [List.take_of_length_le (by omega), List.drop_eq_nil_of_le ht, List.append_nil]
theorem mix_zero (zs args : List Int) : mix zs args 0 = args := by simp [mix]
def pd1 (bs : List Bk) (os : List Int) (g : Nat) (w2 : World) (v : Value) (wr : World) : Prop :=
  ∃ t : Nat, t ≤ os.length ∧ v = .int .i64 (t : Int) ∧ RowD wr g (bools (setsT os (List.replicate bs.length false) t)) 4 ∧ Apart g w2 wr
def pd4 (S : Nat) (box : List Value) (zs args : List Int) (wo : World) (A17 : Option Addr) (c17 : Nat) (v80 : Value) (w9 : World) : Prop :=
  ∃ t : Nat, t ≤ args.length ∧ v80 = .int .i64 (t : Int) ∧ OwnI w9 (S + 1) (.slice A17 args.length c17) (mix zs args t) ∧ RowD w9 S box 44 ∧ Below S wo w9
theorem pd3_low {bs l : List Bk} {L : List Nat} {PV V v17 v' : Value} {OB k i : Nat} {w17 wr wb w5 : World} {b x : Bk} (HO : RowD wr OB [PV, V, .slice none 0 0] 26) (HV : OwnB wr (OB + 1) V l) (hl : l.map core = (wantK bs L k).map core) (HA : BkOwn wr (OB + 1) l) (hb : Below OB w17 wr)
    (hk : L[k]? = some i) (hbi : bs[i]? = some b) (hbb : Below wr.heap.size wr wb) (hO9 : OwnI wb (OB + 1) v17 x.args) (hx : core x = core (prB L b)) (hxl : x.args.length ≤ 1000000) (hv : v17 = .slice x.A x.args.length x.cap)
    (hg : wb.grownBy w5 V.ownBlock) (hb5 : Below (OB + 1) wb w5) (hown : OwnB w5 (OB + 1) v' (l ++ [x])) :
    pg3 bs L PV OB w17 (.int .i64 ((k : Int) + 1)) (w5.setCell ⟨OB, 1, none⟩ v') := by
  have hOB := HO.lt
  have hkl := (List.getElem?_eq_some_iff.1 hk).1
  have HVb : OwnB wb (OB + 1) V l := HV.call hbb
  refine ⟨k + 1, v', l ++ [x], by omega, by go_num, ((HO.below hbb hOB).below hb5 (by omega)).set_ 1 v', hown.setLow (by omega) 1 v', ?_, ⟨fun y hy => ?_⟩, ?_⟩
  · rw [wantK_succ hk hbi, List.map_append, List.map_append, hl]
    simp [hx]
  · rcases List.mem_append.1 hy with hy | hy
    · obtain ⟨h1, h2⟩ := HA.args y hy
      exact ⟨(OwnI.byB (h1.call hbb) HVb hg).setLow (by omega) 1 v', h2⟩
    · simp at hy
      subst hy
      subst hv
      exact ⟨(OwnI.byB hO9 HVb hg).setLow (by omega) 1 v', hxl⟩
  · exact ((hb.trans (hbb.mono (by omega))).trans (hb5.mono (by omega))).setCell (p := ⟨OB, 1, none⟩) (Nat.le_refl _) v'
set_option maxRecDepth 100000 in
set_option maxHeartbeats 8000000 in
theorem rprune_ok (d : Dg) (m : Nat) (w : World) (hm : m ≤ w.heap.size) (hd : DgAt w m d) (hnz : Nz d) (he : dgErr d.ps d.bs d.os = 0) :
    Calls Tryd.prog 22 #[d.val] w (RPruneP d.ps (prBs d.bs d.os) (prOs d.bs d.os) (natI (keptL d.bs d.os)) w) := by
  have hl1 := hd.l1
  have hl2 := hd.l2
  have hl3 := hd.l3
  have HD := Lib.hid hd
  clear hd
  obtain ⟨A1, ps, c1, A2, bs, c2, A3, os, c3⟩ := d
  dsimp only at hl1 hl2 hl3 he
  simp only [Dg.val]
  have b0 := ext_alloc (al_ w (.cells #[.slice A1 ps.length c1, .slice A2 bs.length c2, .slice A3 os.length c3] 26)) (.cells #[.slice none 0 0, .slice none 0 0, .slice none 0 0] 26)
  have r0 := (RowD.new_ w [.slice A1 ps.length c1, .slice A2 bs.length c2, .slice A3 os.length c3] 26).al (.cells #[.slice none 0 0, .slice none 0 0, .slice none 0 0] 26)
  have rr := RowD.new_ (w.alloc (.cells #[.slice A1 ps.length c1, .slice A2 bs.length c2, .slice A3 os.length c3] 26)) [.slice none 0 0, .slice none 0 0, .slice none 0 0] 26
  rw [size_al1] at rr
  have HB0 := Lib.hid b0
  have R0 := Lib.hid r0
  have RR := Lib.hid rr
  clear b0 r0 rr
  have HE := Lib.hid he
  have HOK := Lib.hid (dg_succ he)
  have HOO := Lib.hid (dg_outs he)
  have HN1 := Lib.hid hnz.n1
  have HN4 := Lib.hid hnz.n4
  obtain ⟨i0, hi, hz0, hz1, hz2⟩ := info_parts info_bool
  obtain ⟨j0, hj, hy0, hy1, hy2⟩ := info_parts info_int
  clear he hnz
  go_enter Tryd.func22, Tryd.ntmps22
  go_wp2_with (at_make; (with_reducible refine wpList_make_full _ rfl (.tmp 22) (.tmp 22) 46 rfl (w.heap.size + 2) 4 i0 (.bool false) 1 under_bools hi hz0 hz1 .i64 .i64 bs.length bs.length bs.length rfl rfl rfl rfl (by rw [hz2]; omega) (by unfold maxLen; omega) (by first | assumption | (simp; done) | (simp; omega)) ?_; intro w2 hown hg); have hst : Below (w.heap.size + 2) ((w.alloc (.cells #[.slice A1 ps.length c1, .slice A2 bs.length c2, .slice A3 os.length c3] 26)).alloc (.cells #[.slice none 0 0, .slice none 0 0, .slice none 0 0] 26)) w2 := (Below.refl _ _).grown hg (by simp) (fun k h => by simp at h); have hrow := rowD_of hown; rw [made_bools] at hrow; simp only [size_al1] at hrow; have R2 := Lib.hid (R0.out.below hst (by omega)); have RR2 := Lib.hid (RR.out.below hst (by omega)); have HROW := Lib.hid hrow; have hzg := hrow.lt; have q2' : w2.cell? ⟨w.heap.size, 2, none⟩ = some (.slice A3 os.length c3) := R2.out.cell 2; have z2 : w.heap.size < w2.heap.size := (by omega); have N2 := Lib.hid (HB0.out.trans (hst.mono (by omega))); clear hown hrow hst hg)
  obtain ⟨g, hg⟩ : ∃ g, g = w.heap.size + 1 + 1 := ⟨_, rfl⟩
  rw [← hg] at HROW hzg
  rw [← hg]
  have hgw : w.heap.size + 2 ≤ g := by omega
  clear hg q2' R0 RR
  go_loopw [27] (fun v wr => pd1 bs os g w2 v wr) (fun v _ => os.length - (intOf v).toNat)
  case atStart => exact ⟨0, Nat.zero_le _, rfl, HROW.out, Apart.refl _ _⟩
  case round =>
    obtain ⟨t, ht, rfl, hrow, hap⟩ := hrel
    have HRW := Lib.hid hrow
    have zg := hrow.lt
    have gf := hrow.free
    have R3 := Lib.hid (R2.out.apart hap (by omega))
    have RR3 := Lib.hid (RR2.out.apart hap (by omega))
    have N3 := Lib.hid (N2.out.trans (hap.below (by omega) (by omega)))
    have z3 : w.heap.size < wr.heap.size := R3.out.lt
    clear hrow
    by_cases hlt : t < os.length
    · as_aux_lemma =>
      have hlti : (t : Int) < (os.length : Int) := by omega
      obtain ⟨ob, oo, z, rfl, hob, hob2, hz, gz⟩ := (HD.out.below N3.out hm).os.int_ hlt
      dsimp only at gz hz hob hob2
      have hzb := HOO.out z (List.mem_of_getElem? hz)
      obtain ⟨a, rfl⟩ := Int.eq_ofNat_of_zero_le hzb.1
      have haN : a < bs.length := by have := hzb.2; omega
      have haI : (a : Int) < (bs.length : Int) := hzb.2
      have hln : (setsT os (List.replicate bs.length false) t).length = bs.length := by rw [setsT_len]; simp
      have hca : wr.cell? ⟨g, a, none⟩ = some (.bool (isM (setsT os (List.replicate bs.length false) t) a)) := by rw [HRW.out.cell, bools_get (by rw [hln]; exact haN)]
      have HS := Lib.hid (setsT_succ (c := List.replicate bs.length false) hz)
      clear hz hzb hln
      go_wp2_with fail
      exact ⟨⟨t + 1, by omega, by go_num, by rw [HS.out, Int.toNat_natCast, bools_set]; exact HRW.out.set_ a (.bool true), hap.trans (Apart.set _)⟩, by simp [intOf]; omega⟩
    · have hle : ¬ (t : Int) < (os.length : Int) := by omega
      have hmo : setsT os (List.replicate bs.length false) t = markO bs.length os := by unfold setsT markO; rw [List.take_of_length_le (by omega)]
      have HMO := Lib.hid hmo
      have q0 : wr.cell? ⟨w.heap.size, 0, none⟩ = some (.slice A1 ps.length c1) := R3.out.cell 0
      have q1 : wr.cell? ⟨w.heap.size, 1, none⟩ = some (.slice A2 bs.length c2) := R3.out.cell 1
      have q2 : wr.cell? ⟨w.heap.size, 2, none⟩ = some (.slice A3 os.length c3) := R3.out.cell 2
      have z3' : w.heap.size + 2 ≤ wr.heap.size := by omega
      rw [hmo] at HRW
      clear hap R2 RR2 N2 HROW hmo
      go_wp2_with fail
      go_at_call 36
      refine (needed_any ⟨A1, ps, c1, A2, bs, c2, A3, os, c3⟩ m g true (markO bs.length os) wr (by omega) HOK.out (markO_len _ _) (by omega) (HD.out.below N3.out hm) HRW.out).mono ?_
      rintro e w3 ⟨rfl, hrow3, hap3⟩
      dsimp only at hrow3 ⊢
      have R3' := Lib.hid (R3.out.apart hap3 (by omega))
      have RR3' := Lib.hid (RR3.out.apart hap3 (by omega))
      have N3' := Lib.hid (N3.out.trans (hap3.below (by omega) (by omega)))
      have HRW3 := Lib.hid (show RowD w3 g (bools (keptM bs os)) 4 from hrow3)
      have hs3 := hap3.size
      clear R3 RR3 N3 HRW hrow3 hap3 q0 q1 q2
      obtain ⟨mm, hmm⟩ : ∃ mm, mm = keptM bs os := ⟨_, rfl⟩
      rw [← hmm] at HRW3
      have HM := Lib.hid hmm
      have HLL := Lib.hid (show mm.length = bs.length by rw [hmm]; exact keptM_len _ _)
      have z3'' : w.heap.size + 2 ≤ w3.heap.size := by omega
      clear hmm hs3
      go_wp2_with fail
      go_at_call 35
      rw [← HLL.out]
      refine (rList_any (some ⟨g, 0, none⟩) mm mm.length w3.heap.size w3 (Nat.le_refl _) (HRW3.out.cells_ HRW3.out.lt) (by have := HLL.out; omega)).mono ?_
      rintro e w4 ⟨v4, rfl, D4, hb4⟩
      obtain ⟨A4, c4, rfl, n4, hc4⟩ := D4.view
      have HQ4 := Lib.hid (D4.base_ z3'')
      have HC4 := Lib.hid hc4
      have R4 := Lib.hid (R3'.out.call hb4)
      have RR4 := Lib.hid (RR3'.out.call hb4)
      have N4 := Lib.hid (N3'.out.trans (hb4.mono N3'.out.size))
      have z4 : w.heap.size + 1 < w4.heap.size := RR4.out.lt
      have q1' : w4.cell? ⟨w.heap.size, 1, none⟩ = some (.slice A2 bs.length c2) := R4.out.cell 1
      clear D4 hc4 hb4 n4 R3' RR3' N3'
      rw [HLL.out]
      have hmk : natI (markL mm) = natI (keptL bs os) := by rw [HM.out]; rfl
      rw [hmk] at HC4 HQ4
      rw [hmk]
      rw [natI_len] at HQ4
      rw [natI_len]
      obtain ⟨L, hL⟩ : ∃ L, L = keptL bs os := ⟨_, rfl⟩
      rw [← hL] at HC4 HQ4
      rw [← hL]
      have HL := Lib.hid hL
      have HND := Lib.hid (show L.Nodup by rw [hL]; exact kept_nodup HE.out)
      have HLT := Lib.hid (show ∀ j ∈ L, j < bs.length by rw [hL]; exact fun j hj => keptL_lt hj)
      have hLn : L.length ≤ bs.length := by rw [hL]; exact keptL_len _ _
      clear hmk hL HM HRW3 zg hgw gf
      have z4' : w.heap.size + 2 ≤ w4.heap.size := by omega
      go_wp2_with (at_make; (with_reducible refine wpList_make_full _ rfl (.tmp 41) (.tmp 41) 24 rfl (w.heap.size + 2) 3 j0 (.int .i64 0) 1 under_ints hj hy0 hy1 .i64 .i64 bs.length bs.length bs.length rfl rfl rfl rfl (by rw [hy2]; omega) (by unfold maxLen; omega) (by first | assumption | (simp; done) | (simp; omega)) ?_; intro w5 hown hg); have hst : Below (w.heap.size + 2) w4 w5 := (Below.refl _ _).grown hg z4' (fun k h => by simp at h); have hst2 : Below w4.heap.size w4 w5 := (Below.refl _ _).grown hg (Nat.le_refl _) (fun k h => by simp at h); have hrow := rowD_of hown; rw [made_ints, ← numT_zero bs.length L] at hrow; have HQ5 := Lib.hid (HQ4.out.call hst2); have HQ5K := Lib.hid (show ∀ q, (Value.slice A4 L.length c4).ownBlock = some q → q < w4.heap.size from fun q hq => (World.ownsRow.lt HQ4.out q hq).2); have HQ5L := Lib.hid (show ∀ q, (Value.slice A4 L.length c4).ownBlock = some q → q ≠ w4.heap.size from fun q hq => Nat.ne_of_lt (World.ownsRow.lt HQ4.out q hq).2); have HC5 := Lib.hid (HC4.out.below hst2 (Nat.le_refl _)); have R5 := Lib.hid (R4.out.below hst (by omega)); have RR5 := Lib.hid (RR4.out.below hst (by omega)); have HGI := Lib.hid hrow; have zgi := hrow.lt; have N5 := Lib.hid (N4.out.trans (hst.mono (by omega))); clear hown hrow hst hst2 hg q1')
      obtain ⟨gi, hgi⟩ : ∃ gi, gi = w4.heap.size := ⟨_, rfl⟩
      rw [← hgi] at HGI HC5 zgi HQ5L HQ5K
      rw [← hgi]
      have hgiw : w.heap.size + 2 ≤ gi := by omega
      clear hgi HC4 HQ4 R4 RR4 N4 z4 z4'
      go_loopw [45] (fun v wr => pg2 bs.length L gi w5 v wr) (fun v _ => L.length - (intOf v).toNat)
      case atStart => exact ⟨0, Nat.zero_le _, rfl, HGI.out, Apart.refl _ _⟩
      case round =>
        clear HGI
        obtain ⟨t, ht, rfl, hgr, hap⟩ := hrel
        have HG := Lib.hid hgr
        have zg : gi < wr.heap.size := hgr.lt
        have gf : ∀ j, wr.frozen? ⟨gi, j, none⟩ = false := fun j => hgr.free j
        clear hgr
        by_cases hlt : t < L.length
        · as_aux_lemma =>
          have hlti : (t : Int) < (L.length : Int) := by omega
          obtain ⟨lb, lo, z, rfl, hlb, hlb2, hz, gz⟩ := (HC5.out.ap hap (Nat.le_refl _) (by omega)).int_ (k := t) (by rw [natI_len]; exact hlt)
          rw [natI_get] at hz
          obtain ⟨j, hj', rfl⟩ := Option.map_eq_some_iff.1 hz
          have HJ := Lib.hid hj'
          have hjn : j < bs.length := HLT.out j (List.mem_of_getElem? hj')
          have hji : (j : Int) < (bs.length : Int) := by omega
          have hcj : wr.cell? ⟨gi, j, none⟩ = some (.int .i64 ((numT bs.length L t)[j]?.getD 0)) := by
            have h1 : j < (numT bs.length L t).length := by rw [numT_len]; exact hjn
            rw [HG.out.cell, List.getElem?_eq_getElem h1]
            exact ints_get (List.getElem?_eq_getElem h1)
          clear hz hj'
          go_wp2_with fail
          exact ⟨⟨t + 1, by omega, by go_num, by rw [← numT_set HND.out HJ.out, ints_set]; exact HG.out.set_ j _, hap.trans (Apart.set _)⟩, by simp [intOf]; omega⟩
        · have hle : ¬ (t : Int) < (L.length : Int) := by omega
          have e : t = L.length := by omega
          subst e
          have HQ6 := Lib.hid (HQ5.out.apart' hap HQ5L.out)
          have R6 := Lib.hid (R5.out.apart hap (by omega))
          have RR6 := Lib.hid (RR5.out.apart hap (by omega))
          have N6 := Lib.hid (N5.out.trans (hap.below (by omega) (by omega)))
          have HC6 := Lib.hid (HC5.out.ap hap (Nat.le_refl _) (by omega))
          have q0 : wr.cell? ⟨w.heap.size, 0, none⟩ = some (.slice A1 ps.length c1) := R6.out.cell 0
          have z6 : w.heap.size < wr.heap.size := R6.out.lt
          have HP6 := Lib.hid (HD.out.below N6.out hm).ps
          have HWE := Lib.hid (show w.heap.size + 2 ≤ wr.heap.size by omega)
          clear hap HC5 HQ5 R5 RR5 N5 gf
          go_wp2_with (at_builtin; refine app_ports rfl (.tmp 55) (.tmp 57) rfl wr.heap.size _ [] ps A1 c1 m rfl (OwnP.lit0 (Nat.le_refl _)) rfl HN1.out (HP6.out.below (al_ _ _) (by omega)) (by simpa using hl1) (by simp) ?_; intro v7 w7 hown7 hg7 hb7; rw [List.nil_append] at hown7; obtain ⟨A7, c7, rfl, n7, hc7⟩ := hown7.view; have HC7 := Lib.hid hc7; have HNP := Lib.hid n7; have HP7L := Lib.hid (show ∀ a : Addr, A7 = some a → wr.heap.size ≤ a.block from fun a ha => (World.ownsRow.lt hown7 a.block (by rw [ha]; rfl)).1); have hz7 := hb7.size; have HB7 := Lib.hid (Below.trans ((Below.refl wr.heap.size wr).alloc (Nat.le_refl _) _) hb7); clear hown7 hg7 hb7 hc7 n7 q0)
          have hz7' : wr.heap.size ≤ w7.heap.size := HB7.out.size
          have R7 := Lib.hid (R6.out.call HB7.out)
          have RR7 := Lib.hid (RR6.out.call HB7.out)
          have HQ7 := Lib.hid (HQ6.out.call HB7.out)
          have N7 := Lib.hid (N6.out.trans (HB7.out.mono N6.out.size))
          have HC7k := Lib.hid (HC6.out.below HB7.out (by omega))
          have HG7 := Lib.hid (HG.out.call HB7.out)
          have HP7M := Lib.hid (show ∀ a : Addr, A7 = some a → w.heap.size + 1 < a.block from fun a ha => by have := HP7L.out a ha; have := HWE.out; omega)
          clear HQ6 R6 RR6 N6 HC6 HP6 HB7 HG hz7 HP7L
          obtain ⟨OB, hOB⟩ : ∃ OB, OB = w7.heap.size := ⟨_, rfl⟩
          obtain ⟨W7, hW7⟩ : ∃ W, W = w7.alloc (.cells #[.slice A7 ps.length c7, .slice none 0 0, .slice none 0 0] 26) := ⟨_, rfl⟩
          have hz7s : W7.heap.size = w7.heap.size + 1 := by rw [hW7]; simp
          have RO := Lib.hid (RowD.new_ w7 [.slice A7 ps.length c7, .slice none 0 0, .slice none 0 0] 26)
          have b7 := al_ w7 (.cells #[.slice A7 ps.length c7, .slice none 0 0, .slice none 0 0] 26)
          have R8 := Lib.hid (R7.out.call b7)
          have RR8 := Lib.hid (RR7.out.call b7)
          have HQ8 := Lib.hid (HQ7.out.call b7)
          have HQ8L := Lib.hid (show ∀ q, (Value.slice A4 L.length c4).ownBlock = some q → q < gi from HQ5K.out)
          have N8 := Lib.hid (N7.out.trans (b7.mono N7.out.size))
          have HC8k := Lib.hid (HC7k.out.below b7 (by omega))
          have HC8 := Lib.hid (HC7.out.below b7 (Nat.le_refl _))
          have HGI9 := Lib.hid (HG7.out.call b7)
          rw [← hW7] at RO R8 RR8 HQ8 N8 HC8k HC8 HGI9
          rw [← hOB] at RO HC8
          rw [← hW7, ← hOB]
          have hgiO : gi < OB := by omega
          have hOW : W7.heap.size = OB + 1 := by omega
          have HOW := Lib.hid hOW
          have hmO : m ≤ OB := by omega
          have hwO : w.heap.size + 1 < OB := by omega
          clear hOB hW7 hz7s b7 HQ7 R7 RR7 N7 HC7k HG7 HC7 hz7' z6 zg hOW hgiw zgi
          go_loopw [62] (fun v wr => pg3 bs L (.slice A7 ps.length c7) OB W7 v wr) (fun v _ => L.length - (intOf v).toNat)
          case atStart => exact ⟨0, _, [], Nat.zero_le _, rfl, RO.out, OwnB.nil_ _ _, rfl, ⟨by simp⟩, Below.refl _ _⟩
          case round =>
            clear RO
            obtain ⟨k, V, l, hk, rfl, hro, hv, hlc, hbo, hb⟩ := hrel
            have HO := Lib.hid hro
            have HV := Lib.hid hv
            have HLC := Lib.hid hlc
            have HBO := Lib.hid hbo
            have HB := Lib.hid hb
            have zo : OB < wr.heap.size := hro.lt
            have HLK := Lib.hid (show l.length = k by have h1 := core_len hlc; rw [wantK_len hk] at h1; exact h1)
            have N9 := Lib.hid (N8.out.trans (hb.mono (by omega)))
            have HG9 := Lib.hid (HGI9.out.below hb hgiO)
            have R9 := Lib.hid (R8.out.below hb (by omega))
            have q1 : wr.cell? ⟨w.heap.size, 1, none⟩ = some (.slice A2 bs.length c2) := R9.out.cell 1
            have z9 : w.heap.size < wr.heap.size := R9.out.lt
            have zgi : gi < wr.heap.size := HG9.out.lt
            have HC9k := Lib.hid (HC8k.out.below hb (Nat.le_of_lt hgiO))
            clear hro hv hlc hbo
            by_cases hlt : k < L.length
            · have hki : (k : Int) < (L.length : Int) := by omega
              have HLL := Lib.hid (show l.length < 1000000 by have := HLK.out; omega)
              obtain ⟨lb, lo, zk, rfl, hlb, hlb2, hz, gz⟩ := HC9k.out.int_ (k := k) (by rw [natI_len]; exact hlt)
              rw [natI_get] at hz
              obtain ⟨i, hi', rfl⟩ := Option.map_eq_some_iff.1 hz
              have HKI := Lib.hid hi'
              have hil : i < bs.length := HLT.out i (List.mem_of_getElem? hi')
              clear hz hi'
              obtain ⟨b, off, kind, B, args, cap, vn, ve, un, ue, hA2, hbm, hbs, hx, g0, g1, g2, g3, g4, g5, ha, hal⟩ := (HD.out.below N9.out hm).blk hil
              dsimp only at hA2 hx
              subst hA2
              have HX := Lib.hid hx
              have HA4 := Lib.hid ha
              have HA0 := Lib.hid (show ∀ z ∈ args, 0 ≤ z from fun z hz => by
                have h1 := (blk_args (dg_blk HE.out HX.out)).2.2 z hz
                exact h1.1)
              clear hx ha
              by_cases hk0 : kind = 0
              · subst hk0
                obtain ⟨zs, hzs⟩ : ∃ zs : List Int, zs = (if (0 : Int) = 0 then args else args.map (renA L)) := ⟨_, rfl⟩
                have HZS := Lib.hid hzs
                have HZN := Lib.hid (show zs.length = args.length by rw [hzs, if_pos rfl])
                have HZL := Lib.hid (show zs.length ≤ 1000000 by rw [HZN.out]; exact hal)
                clear hzs
                obtain ⟨wo, rfl⟩ : ∃ wo : World, wo = wr := ⟨_, rfl⟩
                have hgiS : gi < wo.heap.size := by omega
                have hOBS : OB < wo.heap.size := by omega
                have hmS : m ≤ wo.heap.size := by omega
                have hiS : (i : Int) < (bs.length : Int) := by omega
                have HBX := Lib.hid (RowD.new_ wo [.int .i64 0, .slice B args.length cap, .int .i64 vn, .int .i64 ve, .int .i64 un, .int .i64 ue] 44)
                have HNC := Lib.hid (show B = none → cap = 0 from HN4.out _ (List.mem_of_getElem? HX.out))
                have HAA := Lib.hid (HA4.out.below (al_ wo (.cells #[.int .i64 0, .slice B args.length cap, .int .i64 vn, .int .i64 ve, .int .i64 un, .int .i64 ue] 44)) (by omega))
                go_upto_region 20 with (at_builtin; go_loud (refine app_ints rfl (.tmp 71) (.tmp 73) rfl (wo.heap.size + 1) _ [] args B cap m rfl (OwnI.lit0n (size_al1 _ _) (Nat.le_refl _)) rfl HNC.out (HAA.out.below (al_ _ _) (by first | (simp; omega) | omega)) (by simpa using hal) (by first | (simp; done) | (simp; omega) | omega) ?_); intro v17 w7 hown7 hg7 hb7; rw [List.nil_append] at hown7; obtain ⟨A17, c17, rfl, _, _⟩ := hown7.view; have H17 := Lib.hid hown7; have HSB := Lib.hid (show Below wo.heap.size wo w7 from ((al_ wo (.cells #[.int .i64 0, .slice B args.length cap, .int .i64 vn, .int .i64 ve, .int .i64 un, .int .i64 ue] 44)).alloc (by simp) _).trans (hb7.mono (by omega))); have HBW := Lib.hid ((HBX.out.al _).below hb7 (by omega)); clear hown7 hg7 hb7)
                have q0 : w7.cell? ⟨wo.heap.size, 0, none⟩ = some (.int .i64 0) := HBW.out.cell 0
                have zS9 : wo.heap.size < w7.heap.size := HBW.out.lt
                have H17 : Hid (OwnI w7 (wo.heap.size + 1) (.slice A17 args.length c17) zs) := by rw [HZS.out, if_pos rfl]; exact H17
                have q1 : w7.cell? ⟨wo.heap.size, 1, none⟩ = some (.slice B args.length cap) := HBW.out.cell 1
                have q2 : w7.cell? ⟨wo.heap.size, 2, none⟩ = some (.int .i64 vn) := HBW.out.cell 2
                have q3 : w7.cell? ⟨wo.heap.size, 3, none⟩ = some (.int .i64 ve) := HBW.out.cell 3
                have q4 : w7.cell? ⟨wo.heap.size, 4, none⟩ = some (.int .i64 un) := HBW.out.cell 4
                have q5 : w7.cell? ⟨wo.heap.size, 5, none⟩ = some (.int .i64 ue) := HBW.out.cell 5
                have HOW := Lib.hid (HO.out.below HSB.out hOBS)
                have o1 : w7.cell? ⟨OB, 1, none⟩ = some V := HOW.out.cell 1
                have of : ∀ j, w7.frozen? ⟨OB, j, none⟩ = false := fun j => HOW.out.free j
                have zO9 : OB < w7.heap.size := HOW.out.lt
                have HVb := Lib.hid (HV.out.call HSB.out)
                have HXC := Lib.hid (show core ⟨0, A17, zs, c17, vn, ve, un, ue⟩ = core (prB L ⟨0, B, args, cap, vn, ve, un, ue⟩) from by rw [HZS.out]; rfl)
                have HWB := Lib.hid (show Below wo.heap.size wo (w7.alloc (.cells #[.int .i64 0, .slice A17 args.length c17, .int .i64 vn, .int .i64 ve, .int .i64 un, .int .i64 ue] 44)) from HSB.out.alloc (Nat.le_of_lt zS9) _)
                have HXO := Lib.hid (show OwnI (w7.alloc (.cells #[.int .i64 0, .slice A17 args.length c17, .int .i64 vn, .int .i64 ve, .int .i64 un, .int .i64 ue] 44)) (OB + 1) (.slice A17 zs.length c17) zs from by rw [HZN.out]; exact (H17.out.alloc _).base_ (by omega))
                go_wp2_with (at_builtin; refine push_bk rfl (.tmp 94) (.tmp 103) rfl (OB + 1) V l ⟨0, A17, zs, c17, vn, ve, un, ue⟩ w7.heap.size rfl (HVb.out.alloc _) rfl (by intro j u hu; rcases j with _ | _ | _ | _ | _ | _ | j <;> simp [Bk.cells] at hu <;> (subst hu; simp [go_sem, HZN.out])) (by have := HLL.out; omega) (by first | (simp; omega) | simp | omega) ?_; intro v' w10 hown10 hg10 hb10; obtain ⟨qc, qff, qs, qz⟩ := ext_at (m := OB + 1) hb10 (by first | (simp; omega) | simp | omega) (by first | (simp; omega) | simp | omega); obtain ⟨A10', c10', rfl, _, _⟩ := hown10.view)
                exact ⟨pd3_low HO.out HV.out HLC.out HBO.out hb HKI.out HX.out HWB.out HXO.out HXC.out HZL.out rfl hg10 hb10 (by simpa using hown10), by simp [intOf]; omega⟩
              · have n0 : (kind != 0) = true := by simpa using hk0
                have HK0 := Lib.hid hk0
                clear hk0
                obtain ⟨zs, hzs⟩ : ∃ zs : List Int, zs = (if (kind : Int) = 0 then args else args.map (renA L)) := ⟨_, rfl⟩
                have HZS := Lib.hid hzs
                have HZN := Lib.hid (show zs.length = args.length by rw [hzs, if_neg HK0.out]; simp)
                have HZL := Lib.hid (show zs.length ≤ 1000000 by rw [HZN.out]; exact hal)
                clear hzs
                obtain ⟨wo, rfl⟩ : ∃ wo : World, wo = wr := ⟨_, rfl⟩
                have hgiS : gi < wo.heap.size := by omega
                have hOBS : OB < wo.heap.size := by omega
                have hmS : m ≤ wo.heap.size := by omega
                have hiS : (i : Int) < (bs.length : Int) := by omega
                have HBX := Lib.hid (RowD.new_ wo [.int .i64 kind, .slice B args.length cap, .int .i64 vn, .int .i64 ve, .int .i64 un, .int .i64 ue] 44)
                have HNC := Lib.hid (show B = none → cap = 0 from HN4.out _ (List.mem_of_getElem? HX.out))
                have HAA := Lib.hid (HA4.out.below (al_ wo (.cells #[.int .i64 kind, .slice B args.length cap, .int .i64 vn, .int .i64 ve, .int .i64 un, .int .i64 ue] 44)) (by omega))
                go_upto_region 20 with (at_builtin; go_loud (refine app_ints rfl (.tmp 71) (.tmp 73) rfl (wo.heap.size + 1) _ [] args B cap m rfl (OwnI.lit0n (size_al1 _ _) (Nat.le_refl _)) rfl HNC.out (HAA.out.below (al_ _ _) (by first | (simp; omega) | omega)) (by simpa using hal) (by first | (simp; done) | (simp; omega) | omega) ?_); intro v17 w7 hown7 hg7 hb7; rw [List.nil_append] at hown7; obtain ⟨A17, c17, rfl, _, _⟩ := hown7.view; have H17 := Lib.hid hown7; have HSB := Lib.hid (show Below wo.heap.size wo w7 from ((al_ wo (.cells #[.int .i64 kind, .slice B args.length cap, .int .i64 vn, .int .i64 ve, .int .i64 un, .int .i64 ue] 44)).alloc (by simp) _).trans (hb7.mono (by omega))); have HBW := Lib.hid ((HBX.out.al _).below hb7 (by omega)); clear hown7 hg7 hb7)
                have q0 : w7.cell? ⟨wo.heap.size, 0, none⟩ = some (.int .i64 kind) := HBW.out.cell 0
                have zS9 : wo.heap.size < w7.heap.size := HBW.out.lt
                go_wp2_with fail
                clear q0 zS9
                go_loopw [80] (fun v80 w9 => pd4 wo.heap.size [.int .i64 kind, .slice B args.length cap, .int .i64 vn, .int .i64 ve, .int .i64 un, .int .i64 ue] zs args wo A17 c17 v80 w9) (fun v80 _ => args.length - (intOf v80).toNat)
                case atStart => exact ⟨0, Nat.zero_le _, rfl, by rw [mix_zero]; exact H17.out, HBW.out, HSB.out⟩
                case round =>
                  clear H17 HBW HSB
                  obtain ⟨t, ht, rfl, hown, hbx, h9b⟩ := hrel
                  have H17 := Lib.hid hown
                  have HBW := Lib.hid hbx
                  have HSB := Lib.hid h9b
                  have zS9 : wo.heap.size < wr.heap.size := hbx.lt
                  clear hown hbx
                  by_cases hlt4 : t < args.length
                  · as_aux_lemma =>
                    have hlti : (t : Int) < (args.length : Int) := by omega
                    have hz := List.getElem?_eq_getElem hlt4
                    obtain ⟨z, hze⟩ : ∃ z, z = args[t] := ⟨_, rfl⟩
                    rw [← hze] at hz
                    have hz0 : 0 ≤ z := HA0.out z (List.mem_of_getElem? hz)
                    obtain ⟨a, rfl⟩ := Int.eq_ofNat_of_zero_le hz0
                    obtain ⟨g17, hgA, hg1, hg2⟩ := H17.out.some_ (by rw [mix_len HZN.out ht]; omega)
                    subst hgA
                    have cz : wr.cell? ⟨g17, t, none⟩ = some (.int .i64 (a : Int)) := H17.out.cellA (mix_get HZN.out hz)
                    have cf : ∀ j, wr.frozen? ⟨g17, j, none⟩ = false := fun j => H17.out.freeA (mix_len HZN.out ht).symm j
                    have HZT := Lib.hid (show zs[t]? = some (renA L (a : Int)) from by rw [HZS.out, if_neg HK0.out, List.getElem?_map, hz]; rfl)
                    have haN : a < bs.length := by
                      have h := HOK.out i hil (a : Int) (by rw [preds_of HX.out, if_neg HK0.out]; exact List.mem_of_getElem? hz)
                      omega
                    have haI : (a : Int) < (bs.length : Int) := by omega
                    have hca : wr.cell? ⟨gi, a, none⟩ = some (.int .i64 (renA L (a : Int))) := by rw [(h9b.cell (p := ⟨gi, a, none⟩) (by show gi < wo.heap.size; omega)), HG9.out.cell]; exact ints_get (numT_get haN)
                    have hgi9 : gi < wr.heap.size := by omega
                    clear hz hz0 hze
                    go_wp2_with fail
                    exact ⟨⟨t + 1, by omega, by go_num, by rw [← mix_set HZN.out HZT.out]; exact H17.out.put (mix_len HZN.out ht).symm t _, HBW.out.other_ (by omega) t _, h9b.setCell (p := ⟨g17, t, none⟩) (by show wo.heap.size ≤ g17; omega) _⟩, by simp [intOf]; omega⟩
                  · have hle : ¬ (t : Int) < (args.length : Int) := by omega
                    have H17 : Hid (OwnI wr (wo.heap.size + 1) (.slice A17 args.length c17) zs) := by rw [mix_all HZN.out (by omega)] at H17; exact H17
                    have q0 : wr.cell? ⟨wo.heap.size, 0, none⟩ = some (.int .i64 kind) := HBW.out.cell 0
                    have q1 : wr.cell? ⟨wo.heap.size, 1, none⟩ = some (.slice B args.length cap) := HBW.out.cell 1
                    have q2 : wr.cell? ⟨wo.heap.size, 2, none⟩ = some (.int .i64 vn) := HBW.out.cell 2
                    have q3 : wr.cell? ⟨wo.heap.size, 3, none⟩ = some (.int .i64 ve) := HBW.out.cell 3
                    have q4 : wr.cell? ⟨wo.heap.size, 4, none⟩ = some (.int .i64 un) := HBW.out.cell 4
                    have q5 : wr.cell? ⟨wo.heap.size, 5, none⟩ = some (.int .i64 ue) := HBW.out.cell 5
                    have HOW := Lib.hid (HO.out.below HSB.out hOBS)
                    have o1 : wr.cell? ⟨OB, 1, none⟩ = some V := HOW.out.cell 1
                    have of : ∀ j, wr.frozen? ⟨OB, j, none⟩ = false := fun j => HOW.out.free j
                    have zO9 : OB < wr.heap.size := HOW.out.lt
                    have HVb := Lib.hid (HV.out.call HSB.out)
                    have HXC := Lib.hid (show core ⟨kind, A17, zs, c17, vn, ve, un, ue⟩ = core (prB L ⟨kind, B, args, cap, vn, ve, un, ue⟩) from by rw [HZS.out]; rfl)
                    have HWB := Lib.hid (show Below wo.heap.size wo (wr.alloc (.cells #[.int .i64 kind, .slice A17 args.length c17, .int .i64 vn, .int .i64 ve, .int .i64 un, .int .i64 ue] 44)) from HSB.out.alloc (Nat.le_of_lt zS9) _)
                    have HXO := Lib.hid (show OwnI (wr.alloc (.cells #[.int .i64 kind, .slice A17 args.length c17, .int .i64 vn, .int .i64 ve, .int .i64 un, .int .i64 ue] 44)) (OB + 1) (.slice A17 zs.length c17) zs from by rw [HZN.out]; exact (H17.out.alloc _).base_ (by omega))
                    go_wp2_with (at_builtin; refine push_bk rfl (.tmp 94) (.tmp 103) rfl (OB + 1) V l ⟨kind, A17, zs, c17, vn, ve, un, ue⟩ wr.heap.size rfl (HVb.out.alloc _) rfl (by intro j u hu; rcases j with _ | _ | _ | _ | _ | _ | j <;> simp [Bk.cells] at hu <;> (subst hu; simp [go_sem, HZN.out])) (by have := HLL.out; omega) (by first | (simp; omega) | simp | omega) ?_; intro v' w10 hown10 hg10 hb10; obtain ⟨qc, qff, qs, qz⟩ := ext_at (m := OB + 1) hb10 (by first | (simp; omega) | simp | omega) (by first | (simp; omega) | simp | omega); obtain ⟨A10', c10', rfl, _, _⟩ := hown10.view)
                    exact ⟨pd3_low HO.out HV.out HLC.out HBO.out hb HKI.out HX.out HWB.out HXO.out HXC.out HZL.out rfl hg10 hb10 (by simpa using hown10), by simp [intOf]; omega⟩
            · have hle : ¬ (k : Int) < (L.length : Int) := by omega
              have e : k = L.length := by omega
              subst e
              have HPV := Lib.hid (HC8.out.below hb (Nat.le_refl _))
              have R10 := Lib.hid (R8.out.below hb (by omega))
              have RR10 := Lib.hid (RR8.out.below hb (by omega))
              have HQ10 := Lib.hid (HQ8.out.below hb (fun q hq => by have := HQ8L.out q hq; omega))
              have q2 : wr.cell? ⟨w.heap.size, 2, none⟩ = some (.slice A3 os.length c3) := R10.out.cell 2
              have HWS := Lib.hid (show w.heap.size + 2 ≤ wr.heap.size by omega)
              have HDO := Lib.hid (HD.out.below N9.out hm).os
              clear hb
              go_wp2_with fail
              obtain ⟨w3, rfl⟩ : ∃ w3 : World, w3 = wr := ⟨_, rfl⟩
              obtain ⟨zs, hzs⟩ : ∃ zs, zs = prOs bs os := ⟨_, rfl⟩
              have HZS := Lib.hid hzs
              have HZN := Lib.hid (show zs.length = os.length by rw [hzs]; simp [prOs])
              have hz3 : OB < w3.heap.size := zo
              clear hzs q1 q2 z9 zgi
              rw [← HZN.out]
              go_loopw [110] (fun v wr => pg5 zs (.slice A7 ps.length c7) V OB w3 v wr) (fun v _ => zs.length - (intOf v).toNat)
              case atStart => exact ⟨0, _, Nat.zero_le _, rfl, HO.out, OwnI.nil_ _ _, Apart.refl _ _⟩
              case round =>
                obtain ⟨t, V5, ht, rfl, hro, hv5, hap⟩ := hrel
                have HO5 := Lib.hid hro
                have HV5 := Lib.hid hv5
                have zo5 : OB < wr.heap.size := hro.lt
                have o2 : wr.cell? ⟨OB, 2, none⟩ = some V5 := hro.cell 2
                have of : ∀ j, wr.frozen? ⟨OB, j, none⟩ = false := fun j => hro.free j
                have hs5 : w3.heap.size ≤ wr.heap.size := hap.size
                clear hro hv5
                by_cases hlt : t < zs.length
                · as_aux_lemma =>
                  have hlti : (t : Int) < (zs.length : Int) := by omega
                  have hlto : t < os.length := by have := HZN.out; omega
                  obtain ⟨ab, ao, z, rfl, hab, hab2, hz, gz⟩ := (HDO.out.ap hap hmO (by omega)).int_ hlto
                  have hzb := HOO.out z (List.mem_of_getElem? hz)
                  obtain ⟨a, rfl⟩ := Int.eq_ofNat_of_zero_le hzb.1
                  have haN : a < bs.length := by have := hzb.2; omega
                  have haI : (a : Int) < (bs.length : Int) := hzb.2
                  have HZT := Lib.hid (show zs[t]? = some (renA L (a : Int)) from by rw [HZS.out, prOs, List.getElem?_map, hz, HL.out]; rfl)
                  have hca : wr.cell? ⟨gi, a, none⟩ = some (.int .i64 (renA L (a : Int))) := by rw [((HG9.out.apart hap (by omega)).cell a)]; exact ints_get (numT_get haN)
                  have hgi5 : gi < wr.heap.size := by omega
                  have HZL := Lib.hid (show (zs.take t).length < 1000000 by rw [List.length_take]; omega)
                  have HLN5 := Lib.hid (show (zs.take t ++ [renA L (a : Int)]).length = t + 1 by simp; omega)
                  have hzl : zs.length ≤ 1000000 := by have := HZN.out; omega
                  clear hz hzb hlto
                  go_wp2_with fail
                  go_region_law (refine step_pushI rfl (.tmp 115) (.tmp 120) rfl w3.heap.size V5 (zs.take t) (renA L (a : Int)) wr.heap.size rfl (HV5.out.alloc _) rfl (by simp [go_sem]) HZL.out (by first | (simp; omega) | simp | omega) ?_; intro v' w10 hown hg10 hb10; obtain ⟨qc, qff, qs, qz⟩ := ext_at (m := w3.heap.size) hb10 (by first | (simp; omega) | simp | omega) (by first | (simp; omega) | simp | omega); obtain ⟨A10', c10', hv10, _, _⟩ := hown.view; rw [HLN5.out] at hv10; subst hv10)
                  all_goals
                    go_wp2_with fail
                    exact ⟨pg5_low HO5.out hap hown HZT.out hb10 hz3, by simp [intOf]; omega⟩
                · have hle : ¬ (t : Int) < (zs.length : Int) := by omega
                  have htz : zs.take t = zs := List.take_of_length_le (by omega)
                  rw [htz] at HV5
                  obtain ⟨A5, c5, rfl, _, hc5⟩ := HV5.out.view
                  have hva := HV.out.apart hap (by omega)
                  obtain ⟨AB, cB, rfl, _, hcB⟩ := hva.view
                  have HVA := Lib.hid hva
                  have HC5 := Lib.hid hc5
                  have HCB := Lib.hid hcB
                  have RR11 := Lib.hid (RR10.out.apart hap (by omega))
                  have HQ11 := Lib.hid (HQ10.out.apart' hap (fun q hq => by have := HQ8L.out q hq; omega))
                  have HBO5 := Lib.hid (show BkOwn wr (OB + 1) l from ⟨fun x hx => ⟨(HBO.out.args x hx).1.apart hap (by omega), (HBO.out.args x hx).2⟩⟩)
                  have HPV5 := Lib.hid (show CellsAt wr OB A7 (flat Prt.cells ps) from HPV.out.ap hap (Nat.le_refl _) (by omega))
                  have N11 := Lib.hid (N9.out.trans (hap.below (by omega) (by omega)))
                  have p0 : wr.cell? ⟨OB, 0, none⟩ = some (.slice A7 ps.length c7) := HO5.out.cell 0
                  have p1 : wr.cell? ⟨OB, 1, none⟩ = some (.slice AB l.length cB) := HO5.out.cell 1
                  have p2 : wr.cell? ⟨OB, 2, none⟩ = some (.slice A5 zs.length c5) := HO5.out.cell 2
                  have r0 : wr.cell? ⟨w.heap.size + 1, 0, none⟩ = some (.slice none 0 0) := RR11.out.cell 0
                  have r1 : wr.cell? ⟨w.heap.size + 1, 1, none⟩ = some (.slice none 0 0) := RR11.out.cell 1
                  have r2 : wr.cell? ⟨w.heap.size + 1, 2, none⟩ = some (.slice none 0 0) := RR11.out.cell 2
                  have rf : ∀ j, wr.frozen? ⟨w.heap.size + 1, j, none⟩ = false := fun j => RR11.out.free j
                  have zrr : w.heap.size + 1 < wr.heap.size := RR11.out.lt
                  have RF := Lib.hid (((RR11.out.set_ 0 (.slice A7 ps.length c7)).set_ 1 (.slice AB l.length cB)).set_ 2 (.slice A5 zs.length c5))
                  clear hap hc5 hcB htz o2 hva
                  go_wp2_with fail
                  have hg2 : w.heap.size + 1 < OB + 1 := by omega
                  have hsz := size3 wr (w.heap.size + 1) (.slice A7 ps.length c7) (.slice AB l.length cB) (.slice A5 zs.length c5)
                  obtain ⟨hd', hn'⟩ := DgAt.made (w := ((wr.setCell ⟨w.heap.size + 1, 0, none⟩ (.slice A7 ps.length c7)).setCell ⟨w.heap.size + 1, 1, none⟩ (.slice AB l.length cB)).setCell ⟨w.heap.size + 1, 2, none⟩ (.slice A5 zs.length c5)) (base := OB + 1) (PA := A7) (BA := AB) (OA := A5) (ps := ps) (l := l) (os := zs) (c1 := c7) (c2 := cB) (c3 := c5)
                    ((HPV5.out.set3 (fun a ha => by have := HP7M.out a ha; omega) _ _ _).more (by rw [hsz]; omega)) (HVA.out.set3 hg2 _ _ _).cells_ (HV5.out.set3 (by omega) _ _ _).cells ⟨fun x hx => ⟨(HBO5.out.args x hx).1.set3 hg2 _ _ _, (HBO5.out.args x hx).2⟩⟩ hl1 (by have := HLK.out; omega) (by have := HZN.out; omega) HNP.out
                  refine bodyPost_ret (res_rprune (v3 := .slice A4 L.length c4) rfl rfl RF.out) rfl ⟨⟨A7, ps, c7, AB, l, cB, A5, zs, c5⟩, .slice A4 L.length c4, rfl, hd', hn', rfl, ?_, HZS.out, ?_, ?_⟩
                  · rw [HLC.out]
                    unfold wantK prBs
                    rw [List.take_length, HL.out]
                  · rw [← HL.out]
                    exact (HQ11.out.set3 (by omega) _ _ _).base_ (by omega)
                  · exact ((N11.out.setCell (p := ⟨w.heap.size + 1, 0, none⟩) (by show w.heap.size ≤ w.heap.size + 1; omega) _).setCell (p := ⟨w.heap.size + 1, 1, none⟩) (by show w.heap.size ≤ w.heap.size + 1; omega) _).setCell (p := ⟨w.heap.size + 1, 2, none⟩) (by show w.heap.size ≤ w.heap.size + 1; omega) _
end Go.Proofs.YtaheedieingpiaaDoor
