/- What the proofs of this claim share, part 17. No conditions. -/
import Derived.Test.YtfooonellkgaeaaDoorKg9
import Derived.Test.YtfooonellkgaeaaDoorKg7
import Derived.Test.YtfooonellkgaeaaDoorKg10
import Derived.Test.YtfooonellkgaeaaDoorKg15
import Derived.Handed
import Derived.LaidMore
import Derived.Lib.LaidTab
import Derived.Test.YtfooonellkgaeaaDoorTie
import Derived.Test.YtfooonellkgaeaaDoorCards
import Derived.SevenTiedAt
set_option linter.unusedVariables false
set_option linter.unusedSimpArgs false
set_option linter.unusedSectionVars false
namespace Go.Proofs.YtfooonellkgaeaaDoor
open Go.ChangeShapes Go.WideShapes Go.ChangeAt Go.RowKit Go.Joins Go.Deep
theorem gTab : Tryd.prog.globalNamed "math/bits.deBruijn32tab" = some 0 := by kernel_rfl
theorem tTab : (Tryd.prog.globals[0]?).map (·.type) = some 133 := by kernel_rfl
def laidT : List (String × DataW Unit) := [("math/bits.deBruijn32tab", Rows.laid_math_bits_deBruijn32tab)]
theorem tab_of {W : World} (h : laidMetH Tryd.prog laidT W) : TabAt W := by
  rw [MakeChecks.laidMetH_plain _ _ _ (by kernel_rfl)] at h
  have h2 : laidMet Tryd.prog (("math/bits.deBruijn32tab", Lib.tabData .u8 tzTab) :: []) W := h
  have hT := Lib.tabIs_of_head gTab tTab Tryd.underlying133 Tryd.underlying5 (by kernel_rfl) (by kernel_rfl) h2
  have hc : ∀ j z, tzTab[j]? = some z → W.cell? ⟨0, j, none⟩ = some (.int .u8 z) := fun j z hz => by
    have hj : j < tzTab.length := (List.getElem?_eq_some_iff.1 hz).1
    have := hT.cell gTab j hj
    rwa [show tzTab.getD j 0 = z by simp [List.getD, hz]] at this
  refine ⟨?_, hc⟩
  have h0 := hc 0 0 rfl
  rcases Nat.lt_or_ge 0 W.heap.size with h3 | h3
  · exact h3
  · simp [World.cell?, Array.getElem?_eq_none h3] at h0
theorem door_met (os : Os) (args : Array Value) : laidMetH Tryd.prog laidT ((World.doorLaid Tryd.prog 400 os).forCall (fun _ _ => 0) ⟨#[], args, []⟩).memory :=
  laidMetH_of_parts3 (fuel := 8) (laidMet_of_run' 8 (by kernel_rfl) (by kernel_rfl)) (by kernel_rfl) (by kernel_rfl)
theorem door_shaped (os : Os) (args : Array Value) : ((World.doorLaid Tryd.prog 400 os).forCall (fun _ _ => 0) ⟨#[], args, []⟩).Shaped Tryd.prog := World.shaped_of_RefB (by kernel_rfl) (by kernel_rfl)
theorem own : ownKnob Tryd.prog.godebug = none := by kernel_rfl
theorem laidOut : laidOutB Tryd.prog = true := by kernel_rfl
theorem law_lift_laid {H : Type} {enc : TypeId × Value → H} {C : Checked} {os : Os} {f : FuncId} {fn : Func} {s : ChangeSpec} {conds : List PathCond} {T : TypeId} {laid : List (String × DataW Unit)}
    (own : ownKnob C.prog.godebug = none) (started : os.Started) (noInit : C.prog.inits.idxOf? f = none) (hfn : C.prog.funcs[f]? = some fn)
    (witness : ∃ (w : World) (tape : Tape) (i : Input), w.os = os ∧ (w.forCall tape i).Shaped C.prog ∧ i.vars = [] ∧ Input.okWide C.prog (w.forCall tape i) .any w.heap.size f i ∧
      ((s.pre enc C.prog fn conds false (w.forCall tape i).memory i.args ∧ laidMetH C.prog laid (w.forCall tape i).memory) ∧ sizedMet enc C.prog fn (OpenSpec.ofChange s) false (w.forCall tape i).memory i.args) ∧ ({} : Assume).holds C.prog (lone (Frame.enter C.prog f i.args .normal) [] (w.forCall tape i)))
    (hl : laidOutB C.prog = true) (hr0 : (fn.params.toList.all fun t => C.prog.readableRec t && decide (t < C.prog.types.size)) = true) (hvars : s.vars = []) (hT : C.prog.underlying T = some .bool) (hres : fn.resultTypes = #[T])
    (hs : ∀ ds : List (DataW H), ds.length = fn.params.size → (s.fn H ds).results = [.lit (.bool true)] ∧ (s.fn H ds).args = ds ∧ (s.fn H ds).vars = [])
    (walk : ∀ (W : World) (base : Nat) (args : Array Value) (ds : List (DataW H)) (p : List MemPlace),
      (∀ (j : Nat) t v, fn.params[j]? = some t → args[j]? = some v → Value.okWide C.prog W .any base t v) → DataW.TrodAll enc C.prog W 0 (fun _ => true) true fn.params.toList args.toList ds p →
      (∀ x ∈ p, x.block < W.heap.size) → (DataW.weightsEach C.prog fn.params.toList ds).all (· ≤ reachBytes) = true → laidMetH C.prog laid W →
      Calls C.prog f args W fun e W' => e = .returned (.bool true) ∧ Below W.heap.size W W') :
    ReturnsInHanded {} C os f .any (fun w args => (s.pre enc C.prog fn conds false w args ∧ laidMetH C.prog laid w) ∧ sizedMet enc C.prog fn (OpenSpec.ofChange s) false w args) (s.post enc C.prog fn false true false false) := by
  have hr : ∀ t ∈ fn.params.toList, C.prog.readableRec t = true ∧ t < C.prog.types.size := fun t ht => by
    have := List.all_eq_true.1 hr0 t ht
    simpa using this
  refine returnsInHanded_of_change_and (X := fun w _ => laidMetH C.prog laid w) (fun _ _ _ hh h => h.of_heap hh) own started noInit hfn witness ?_
  intro W base args ds gs before hval hW _ hsz hL _
  have hW0 := hW
  obtain ⟨p, q, hA, hV, rfl, _, _⟩ := hW
  have hlt : ∀ x ∈ p ++ q, x.block < W.heap.size := fun x hx => hW0.lt x hx
  have hV' := hV
  rw [hvars] at hV'
  obtain ⟨rfl, rfl⟩ := trodVars_none hV'
  have hvt : s.plain.varTypes C.prog = [] := by
    simp [DataSpec.varTypes, ChangeSpec.plain, hvars]
  rw [hvt, List.append_nil, List.append_nil] at hsz
  refine (walk W base args ds p hval hA (fun x hx => hlt x (by simp [hx])) hsz hL).mono fun e W' ⟨he, hb⟩ => ?_
  exact ⟨_, he, law_post hl hr hvars hT hres hs hW0 hb⟩
end Go.Proofs.YtfooonellkgaeaaDoor
namespace Go.Proofs.YtfooonellkgaeaaDoor
open Go.RowKit
end Go.Proofs.YtfooonellkgaeaaDoor
namespace Go.Proofs.YtfooonellkgaeaaDoor
open Go.RowKit
structure Lx (w0 w : World) (d : Dg) : Prop where
  bel : Below w0.heap.size w0 w
  box : RowD w w0.heap.size d.vals 41
  tab : TabAt w
theorem Lx.start (w0 : World) (d : Dg) (ht : TabAt w0) : Lx w0 (w0.alloc (.cells d.vals.toArray 41)) d :=
  ⟨al_ _ _, RowD.new_ _ _ _, ht.below (al_ _ _) ht.1⟩
theorem Lx.next {w0 w w' : World} {d : Dg} (h : Lx w0 w d) (hb : Below w.heap.size w w') : Lx w0 w' d :=
  ⟨h.bel.trans (hb.mono h.bel.size), h.box.call hb, h.tab.call hb⟩
theorem Lx.al {w0 w : World} {d : Dg} (h : Lx w0 w d) (o : Obj) : Lx w0 (w.alloc o) d := h.next (al_ w o)
theorem Lx.c0 {w0 w : World} {d : Dg} (h : Lx w0 w d) : w.cell? ⟨w0.heap.size, 0, none⟩ = some (.slice d.A1 d.ps.length d.c1) := h.box.cell 0
theorem Lx.c1 {w0 w : World} {d : Dg} (h : Lx w0 w d) : w.cell? ⟨w0.heap.size, 1, none⟩ = some (.slice d.A2 d.bs.length d.c2) := h.box.cell 1
theorem Lx.c2 {w0 w : World} {d : Dg} (h : Lx w0 w d) : w.cell? ⟨w0.heap.size, 2, none⟩ = some (.slice d.A3 d.os.length d.c3) := h.box.cell 2
theorem Lx.lt {w0 w : World} {d : Dg} (h : Lx w0 w d) : w0.heap.size < w.heap.size := h.box.lt
theorem Lx.le {w0 w : World} {d : Dg} (h : Lx w0 w d) : w0.heap.size ≤ w.heap.size := Nat.le_of_lt h.box.lt
theorem markL_len (m : List Bool) : (markL m).length ≤ m.length := by
  unfold markL
  have := List.length_filter_le (fun i => m[i]?.getD false) (List.range m.length)
  simpa using this
end Go.Proofs.YtfooonellkgaeaaDoor
namespace Go.Proofs.YtfooonellkgaeaaDoor
open Go.RowKit
theorem ordN_ext (bs : List Bk) : ∀ (f : Nat) (out : List Nat), ∃ ext, ordN bs f out = out ++ ext ∧ (ext.length < f → nxt bs (out ++ ext) = none) ∧ ∀ t x, ext[t]? = some x → nxt bs (out ++ ext.take t) = some x
  | 0, out => ⟨[], by simp [ordN], by simp, by simp⟩
  | f + 1, out => by
    show ∃ ext, (match nxt bs out with | none => out | some i => ordN bs f (out ++ [i])) = out ++ ext ∧ _
    cases hn : nxt bs out with
    | none => exact ⟨[], by simp, by simp [hn], by simp⟩
    | some i =>
      obtain ⟨ext, h1, h2, h3⟩ := ordN_ext bs f (out ++ [i])
      refine ⟨i :: ext, by simp [h1], fun h => ?_, fun t x ht => ?_⟩
      · have := h2 (by simpa using h)
        simpa using this
      · cases t with
        | zero =>
          simp at ht
          subst ht
          simpa using hn
        | succ t =>
          have := h3 t x (by simpa using ht)
          simpa using this
theorem ord_nx {bs : List Bk} {t x : Nat} (h : (ordM bs)[t]? = some x) : nxt bs ((ordM bs).take t) = some x := by
  obtain ⟨ext, h1, _, h3⟩ := ordN_ext bs bs.length []
  unfold ordM at h ⊢
  rw [h1] at h ⊢
  exact h3 t x h
theorem ordM_ok (bs : List Bk) : OutOk bs (ordM bs) := ordN_ok bs.length (OutOk.nil bs)
theorem ord_stop {bs : List Bk} (h : (ordM bs).length ≠ nonDel bs) : nxt bs (ordM bs) = none := by
  obtain ⟨ext, h1, h2, _⟩ := ordN_ext bs bs.length []
  have hle := (ordM_ok bs).le
  have hnd := nonDel_le bs
  have he : ordM bs = ext := h1
  have := h2 (by rw [← he]; omega)
  rw [he]
  exact this
theorem nd_full : ∀ {l1 l2 : List Nat}, l1.Nodup → (∀ x ∈ l1, x ∈ l2) → l2.length ≤ l1.length → ∀ x ∈ l2, x ∈ l1 := by
  intro l1 l2 hn hs hl x hx
  apply Classical.byContradiction
  intro hx1
  have := nd_le (l1 := x :: l1) (l2 := l2) (List.nodup_cons.2 ⟨hx1, hn⟩) (fun y hy => by
    rcases List.mem_cons.1 hy with rfl | hy
    · exact hx
    · exact hs y hy)
  simp at this
  omega
theorem ord_mem {bs : List Bk} (hf : (ordM bs).length = nonDel bs) {i : Nat} (hi : i < bs.length) (hk : kindAt bs i ≠ 2) : i ∈ ordM bs := by
  have ho := ordM_ok bs
  refine nd_full (l2 := (List.range bs.length).filter fun i => kindAt bs i != 2) ho.nodup (fun x hx => ?_) (by rw [hf]; exact Nat.le_refl _) i (by simp [hi, hk])
  have := ho.mem x hx
  simp [this.1, this.2]
/- Places. -/
def placeF : List Int → Int → Nat → Int
  | [], _, _ => -1
  | x :: l, n, k => if x = n then (k : Int) else placeF l n (k + 1)
def placeI (xs : List Int) (n : Int) : Int := placeF xs n 0
theorem natI_get (l : List Nat) (k : Nat) : (natI l)[k]? = (l[k]?).map fun n : Nat => (n : Int) := by simp [natI]
/- What the law on the order asks. -/
def lastT (bs : List Bk) (L : List Nat) (xs : List Int) (t : Nat) : Int := (xs.take t).foldl (fun m a => if kindAt bs a.toNat = 2 then m else max m (placeI (natI L) a)) (-1)
structure FolAt (bs : List Bk) (i k : Nat) : Prop where
  at_ : (ordM bs)[k]? = some i
  place : placeI (natI (ordM bs)) (i : Int) = (k : Int)
  once : placeI (natI ((ordM bs).drop (k + 1))) (i : Int) = -1
  last : lastT bs (ordM bs) (preds bs i) (preds bs i).length < (k : Int)
  least : ∀ (t x : Nat), lastT bs (ordM bs) (preds bs i) (preds bs i).length < (t : Int) → t < k → (ordM bs)[t]? = some x → x ≤ i
/- Circles. -/
def Sup (bs : List Bk) (U : Nat → Prop) : Prop := ∀ u, U u → u < bs.length ∧ kindAt bs u ≠ 2 ∧ ∃ a ∈ preds bs u, U a.toNat
theorem sup_of_stuck {bs : List Bk} (hok : SuccOk bs) (h : (ordM bs).length ≠ nonDel bs) : ∃ U, Sup bs U ∧ ∃ u, U u := by
  have hs := ord_stop h
  have ho := ordM_ok bs
  refine ⟨fun u => u < bs.length ∧ kindAt bs u ≠ 2 ∧ u ∉ ordM bs, fun u ⟨h1, h2, h3⟩ => ⟨h1, h2, ?_⟩, ?_⟩
  · have hr : rdy bs (ordM bs) u = false := by
      unfold nxt at hs
      rw [List.find?_eq_none] at hs
      simpa using hs u (by simpa using h1)
    simp only [rdy] at hr
    have hd : doneB bs (ordM bs) u = false := by
      have h4 : (ordM bs).contains u = false := by
        rw [← Bool.not_eq_true, List.contains_iff_mem]
        exact h3
      simp only [doneB, h4, Bool.or_false, beq_eq_false_iff_ne]
      exact h2
    rw [hd] at hr
    simp only [Bool.not_false, Bool.true_and] at hr
    rw [List.all_eq_false] at hr
    obtain ⟨a, ha, hda⟩ := hr
    have hb := hok u h1 a ha
    simp only [doneB, Bool.or_eq_true, beq_iff_eq, List.contains_iff_mem, not_or] at hda
    exact ⟨a, ha, by omega, hda.1, hda.2⟩
  · apply Classical.byContradiction
    intro hn
    apply h
    refine Nat.le_antisymm ho.le ?_
    unfold nonDel
    refine nd_le (List.nodup_range.filter _) fun x hx => ?_
    simp only [List.mem_filter, List.mem_range, bne_iff_ne, ne_eq] at hx
    apply Classical.byContradiction
    intro hx2
    exact hn ⟨x, hx.1, hx.2, hx2⟩
theorem stuck_of_sup {bs : List Bk} {U : Nat → Prop} (hs : Sup bs U) {u : Nat} (hu : U u) : (ordM bs).length ≠ nonDel bs := by
  intro hf
  have key : ∀ (t x : Nat), (ordM bs)[t]? = some x → ¬ U x := by
    intro t
    induction t using Nat.strongRecOn with
    | ind t ih =>
      intro x hx hU
      obtain ⟨_, _, a, ha, hUa⟩ := hs x hU
      have hr := (nxt_some (ord_nx hx)).2
      simp only [rdy, Bool.and_eq_true, List.all_eq_true] at hr
      have hd := hr.2 a ha
      simp only [doneB, Bool.or_eq_true, beq_iff_eq, List.contains_iff_mem] at hd
      rcases hd with hd | hd
      · exact (hs _ hUa).2.1 hd
      · obtain ⟨q, hq⟩ := List.getElem?_of_mem hd
        have hql := (List.getElem?_eq_some_iff.1 hq).1
        simp at hql
        rw [List.getElem?_take_of_lt (by omega)] at hq
        exact ih q (by omega) _ hq hUa
  obtain ⟨h1, h2, _⟩ := hs u hu
  obtain ⟨t, ht⟩ := List.getElem?_of_mem (ord_mem hf h1 h2)
  exact key t u ht hu
theorem OwnI.cap {w : World} {base n c : Nat} {A : Option Addr} {xs : List Int} (h : OwnI w base (.slice A n c) xs) : xs.length ≤ c ∧ n = xs.length := by
  rcases h.2 with ⟨h0, h1⟩ | ⟨g, cap, cur, he, hb, hg, hn, hm, hs, ht⟩
  · simp only [Value.slice.injEq] at h0
    exact ⟨by omega, by omega⟩
  · simp only [Value.slice.injEq] at he
    exact ⟨by omega, by omega⟩
def placeRel (w : World) (xs : List Int) (n : Int) (i : Value) (wr : World) : Prop := ∃ k : Nat, k ≤ xs.length ∧ i = .int .i64 k ∧ n ∉ xs.take k ∧ wr = w
end Go.Proofs.YtfooonellkgaeaaDoor
