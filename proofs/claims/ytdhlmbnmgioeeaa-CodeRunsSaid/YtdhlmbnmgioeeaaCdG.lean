/- The cells that a program writes: the code's list. No conditions. -/
import Derived.Test.YtdhlmbnmgioeeaaCdF
import Derived.Test.YtdhlmbnmgioeeaaCdM
namespace Go.Proofs.Ytdhlmbnmgioeeaa
set_option linter.unusedVariables false
set_option linter.unusedSimpArgs false
set_option linter.unusedSectionVars false
open Go.RowKit

theorem info_bool : (Try.prog.info? 4).map (fun i => (i.zero, i.size, i.bytes)) = some (some (.bool false), 1, 1) := by kernel_rfl
theorem under_bools : Try.prog.underlying 62 = some (.slice 4) := by kernel_rfl

def marks (xs : List Ins) (n : Nat) : List Value := (List.range n).map fun i : Nat => .bool (wrB xs (i : Int))
theorem marks_nil (n : Nat) : marks [] n = List.replicate n (.bool false) := by
  refine List.ext_getElem (by simp [marks]) fun i h1 h2 => ?_
  simp [marks, wrB]
theorem marks_set {xs : List Ins} {n k d : Nat} {x : Ins} (hx : xs[k]? = some x) (hd : x.dst = (d : Int)) : (marks (xs.take k) n).set d (.bool true) = marks (xs.take (k + 1)) n := by
  refine List.ext_getElem (by simp [marks]) fun i h1 h2 => ?_
  rw [List.getElem_set]
  simp only [marks, List.getElem_map, List.getElem_range, wrB]
  rw [List.take_add_one, hx, List.any_append]
  by_cases h : d = i
  · subst h
    simp [hd]
  · rw [if_neg h]
    have : ((d : Int) == (i : Int)) = false := by simp; omega
    simp [hd, this]

theorem marks_get {xs : List Ins} {n k : Nat} (h : k < n) : (marks xs n)[k]? = some (.bool (wrB xs (k : Int))) := by simp [marks, h]
def k1Rel (w : World) (vs : List Value) (xs : List Ins) (n g : Nat) (i : Value) (wr : World) : Prop :=
  ∃ k : Nat, k ≤ xs.length ∧ i = .int .i64 k ∧ wr.ownsRow (w.heap.size + 1) 4 1 (.slice (some ⟨g, 0, none⟩) n n) n (marks (xs.take k) n) ∧ BoxAt wr w.heap.size vs ∧ Below w.heap.size w wr
def k2Rel (w w2 : World) (xs : List Ins) (n g : Nat) (v i : Value) (wr : World) : Prop :=
  ∃ k : Nat, k ≤ n ∧ i = .int .i64 k ∧ OwnI wr w2.heap.size v (wrTo xs k) ∧ wr.ownsRow (w.heap.size + 1) 4 1 (.slice (some ⟨g, 0, none⟩) n n) n (marks xs n) ∧ Below w2.heap.size w2 wr
theorem row_below {w w' : World} {base B e size g n c : Nat} {xs : List Value} (h : w.ownsRow base e size (.slice (some ⟨g, 0, none⟩) n c) n xs) (hb : Below B w w') (hg : g < B) : w'.ownsRow base e size (.slice (some ⟨g, 0, none⟩) n c) n xs := by
  refine ⟨h.1, ?_⟩
  rcases h.2 with hn | ⟨g', cap, cur, he, hbg, hh, rest⟩
  · exact .inl hn
  · refine .inr ⟨g', cap, cur, he, hbg, ?_, rest⟩
    have : g' = g := by cases he; rfl
    subst this
    rw [hb.block g' hg]
    exact hh

theorem row_store {w wr : World} {n g d : Nat} {l : List Value} {vs : List Value} {base e : Nat} (hbase : w.heap.size < base) (h : wr.ownsRow base e 1 (.slice (some ⟨g, 0, none⟩) n n) n l) (hb : BoxAt wr w.heap.size vs) (hw : Below w.heap.size w wr) (u : Value) (o : Obj) :
    ((wr.setCell ⟨g, d, none⟩ u).alloc o).ownsRow base e 1 (.slice (some ⟨g, 0, none⟩) n n) n (l.set d u) ∧ BoxAt ((wr.setCell ⟨g, d, none⟩ u).alloc o) w.heap.size vs ∧ Below w.heap.size w ((wr.setCell ⟨g, d, none⟩ u).alloc o) := by
  have hg := (World.ownsRow.lt h g rfl).1
  have h2 : Below (w.heap.size + 1) wr ((wr.setCell ⟨g, d, none⟩ u).alloc o) := ((Below.refl _ wr).setCell (p := ⟨g, d, none⟩) (by simp; omega) u).alloc (by have := hb.1; simp; omega) o
  exact ⟨World.ownsRow.alloc (World.ownsRow.stored h d u).1 o, hb.below h2 (by omega), hw.trans (h2.mono (by omega))⟩
def writesM (ps : List Prt) (is : List Int) (xs : List Ins) (os : List Int) : List Int := if progErr ps is xs os = 0 then wrTo xs is.length else []

set_option maxRecDepth 100000 in
set_option maxHeartbeats 4000000 in
theorem writes_any (A1 A2 A3 A4 : Option Addr) (ps : List Prt) (is : List Int) (xs : List Ins) (os : List Int) (c1 c2 c3 c4 m : Nat) (w : World) (hm : m ≤ w.heap.size) (h1 : CellsAt w m A1 (flat Prt.cells ps)) (h2 : CellsAt w m A2 (ints is)) (h3 : CellsAt w m A3 (flat Ins.cells xs)) (h4 : CellsAt w m A4 (ints os)) :
    Calls Try.prog 22 #[.agg #[.slice A1 ps.length c1, .slice A2 is.length c2, .slice A3 xs.length c3, .slice A4 os.length c4]] w fun e w' =>
      ∃ A c, e = .returned (.tuple #[.slice A (writesM ps is xs os).length c, errV (progErr ps is xs os)]) ∧ (A = none → c = 0) ∧ CellsAt w' w'.heap.size A (ints (writesM ps is xs os)) ∧ Below w.heap.size w w' := by
  have H1 := Lib.hid h1
  have H2 := Lib.hid h2
  have H3 := Lib.hid h3
  have H4 := Lib.hid h4
  clear h1 h2 h3 h4
  have b0 : ∀ vs : Array Value, Below w.heap.size w (w.alloc (.cells vs 26)) := fun _ => ext_alloc (Below.refl _ _) _
  by_cases he : progErr ps is xs os = 0
  · have HE := Lib.hid he
    have hs : writesM ps is xs os = wrTo xs is.length := if_pos he
    have HP := Lib.hid (pOk he)
    rw [hs, he]
    clear hs he
    have l2 : (is.length : Int) ≤ 192 := by have := HP.out.l2; omega
    have l3 : (xs.length : Int) ≤ 256 := by have := HP.out.l3; omega
    obtain ⟨i0, hi, hz0, hz1, hz2⟩ := info_parts info_bool
    go_enter Try.func22, Try.ntmps22
    go_wp2_with (first
      | (go_at_call 23; refine (Check_any A1 A2 A3 A4 ps is xs os c1 c2 c3 c4 m _ (by simp; omega) (H1.out.below (b0 _) hm) (H2.out.below (b0 _) hm) (H3.out.below (b0 _) hm) (H4.out.below (b0 _) hm)).mono ?_; rintro e w1 ⟨rfl, hb⟩; rw [HE.out, errV_0]; obtain ⟨hc, hf, hs, hz⟩ := ext_at (m := w.heap.size + 1) hb (by simp) (by simp))
      | (with_reducible refine wpList_make_full _ rfl (.tmp 18) (.tmp 18) 62 rfl (w.heap.size + 1) 4 i0 (.bool false) 1 under_bools hi hz0 hz1 .i64 .i64 is.length is.length is.length rfl rfl rfl rfl (by rw [hz2]; omega) (by unfold maxLen; omega) hz ?_; intro w2 hown hg; have hgs : w1.heap.size < w2.heap.size := (World.ownsRow.lt hown _ rfl).2; have hst := (hb.mono (B' := w.heap.size + 1) (by simp)).grown hg hz (fun k h => by simp at h); clear hc hf hs hb; obtain ⟨hc, hf, hs, hz'⟩ := ext_at (m := w.heap.size + 1) hst (by simp) (by simp)))
    obtain ⟨g, hg1⟩ : ∃ g, g = w1.heap.size := ⟨_, rfl⟩
    rw [← hg1] at hown hgs hz
    rw [← hg1]
    clear hg hg1 hc hf hs hz'
    have hbx : BoxAt w2 w.heap.size [.slice A1 ps.length c1, .slice A2 is.length c2, .slice A3 xs.length c3, .slice A4 os.length c4] := (BoxAt.new_ w [.slice A1 ps.length c1, .slice A2 is.length c2, .slice A3 xs.length c3, .slice A4 os.length c4] _).below hst (by omega)
    have hbw : Below w.heap.size w w2 := (b0 _).trans (hst.mono (by omega))
    clear hst
    go_loopw [23] (fun i wr => k1Rel w [.slice A1 ps.length c1, .slice A2 is.length c2, .slice A3 xs.length c3, .slice A4 os.length c4] xs is.length g i wr) (fun i _ => xs.length - (intOf i).toNat)
    case atStart => exact ⟨0, Nat.zero_le _, rfl, by rw [List.take_zero, marks_nil, ← toList_madeCells_one]; simpa [Value.cells] using hown, hbx, hbw⟩
    case round =>
      clear hbx hbw hown
      obtain ⟨k, hk, rfl, hown, hbox, hb⟩ := hrel
      have HO := Lib.hid hown
      have HB := Lib.hid hbox
      clear hown hbox
      have z0 : w.heap.size < wr.heap.size := HB.out.1
      have z1 : g < wr.heap.size := (World.ownsRow.lt HO.out _ rfl).2
      by_cases hlt : k < xs.length
      · obtain ⟨b, off, x, rfl, hbm, hbs, hx, hc⟩ := H3.out.row (s := 7) (fun _ => rfl) (by omega) hlt
        have hc' := fun t u (hu : (Ins.cells x)[t]? = some u) => (hb.cell (p := ⟨b, off + k * 7 + t, none⟩) (Nat.lt_of_lt_of_le hbm hm)).trans (hc t u hu)
        have g0 : wr.cell? ⟨b, off + k * 7, none⟩ = some (.int .i64 x.op) := hc' 0 _ rfl
        have g1 := hc' 1 _ rfl
        have g2 := hc' 2 _ rfl
        have g3 := hc' 3 _ rfl
        have g4 := hc' 4 _ rfl
        have g5 := hc' 5 _ rfl
        have g6 := hc' 6 _ rfl
        clear hc hc'
        have HX := Lib.hid hx
        have hio := HP.out.ins x (List.mem_of_getElem? hx)
        clear hx
        obtain ⟨d, hd⟩ := Int.eq_ofNat_of_zero_le hio.dst0
        have hd1 : d < is.length := by have := hio.dst1; omega
        clear hio
        have HD := Lib.hid hd
        rw [hd] at g1
        clear hd
        have f1 : ∀ j, wr.frozen? ⟨g, j, none⟩ = false := fun j => World.ownsRow.frozenAt HO.out j
        have f2 : wr.cell? ⟨g, d, none⟩ = some (.bool (wrB (xs.take k) d)) := by rw [World.ownsRow.cellAt HO.out d (by omega), marks_get hd1]
        go_wp2_with fail
        obtain ⟨r1, r2, r3⟩ := row_store (d := d) (by omega) HO.out HB.out hb (.bool true) (.cells #[.int .i64 x.op, .int .i64 d, .int .i64 x.a, .int .i64 x.b, .int .i64 x.sa, .int .i64 x.sb, .int .i64 x.imm] 49)
        exact ⟨⟨k + 1, by omega, by go_num, by rw [← marks_set HX.out HD.out]; exact r1, r2, r3⟩, by simp [intOf]; omega⟩
      · go_wp2_with fail
        have HM : Hid (wr.ownsRow (w.heap.size + 1) 4 1 (.slice (some ⟨g, 0, none⟩) is.length is.length) is.length (marks xs is.length)) := by
          have := HO.out
          rw [List.take_of_length_le (by omega)] at this
          exact this
        clear HO HB hk hlt
        obtain ⟨w3, hw3⟩ : ∃ w3, w3 = wr := ⟨_, rfl⟩
        rw [← hw3] at HM hb z1 z0
        rw [← hw3]
        clear hw3
        go_loopw [8, 34] (fun v i wr => k2Rel w w3 xs is.length g v i wr) (fun _ i _ => is.length - (intOf i).toNat)
        case atStart => exact ⟨0, Nat.zero_le _, rfl, OwnI.nil_ _ _, HM.out, Below.refl _ _⟩
        case round =>
          clear HM
          obtain ⟨k, hk, rfl, hown, hrow, hb3⟩ := hrel
          have HO := Lib.hid hown
          have HR := Lib.hid hrow
          clear hown hrow
          have z3 : g < wr.heap.size := (World.ownsRow.lt HR.out _ rfl).2
          by_cases hlt : k < is.length
          · have f2 : wr.cell? ⟨g, k, none⟩ = some (.bool (wrB xs k)) := by rw [World.ownsRow.cellAt HR.out k (by omega), marks_get hlt]
            cases hwb : wrB xs k with
            | true =>
              have HWB := Lib.hid hwb
              rw [hwb] at f2
              clear hwb
              go_wp2_with (at_builtin; refine push_int rfl _ _ rfl w3.heap.size _ (wrTo xs k) (k : Int) wr.heap.size rfl (HO.out.alloc _) rfl (by simp [go_sem]) (by have := wrTo_len xs k; omega) (by have := hb3.size; simp; omega) ?_; intro v' w4 hown hg hb4)
              have hst : Below w3.heap.size wr w4 := ((Below.refl _ wr).alloc hb3.size _).trans hb4
              exact ⟨⟨k + 1, by omega, by go_num, by rw [← wrTo_hit HWB.out]; exact hown, row_below HR.out hst z1, hb3.trans hst⟩, by simp [intOf]; omega⟩
            | false =>
              have HWB := Lib.hid hwb
              rw [hwb] at f2
              clear hwb
              go_wp2_with fail
              exact ⟨⟨k + 1, by omega, by go_num, by rw [← wrTo_no (by rw [HWB.out]; decide)]; exact HO.out, HR.out, hb3⟩, by simp [intOf]; omega⟩
          · go_wp2_with fail
            obtain ⟨A, c, rfl, hAc, hcell⟩ := HO.out.view
            have e : k = is.length := by omega
            subst e
            refine bodyPost_ret (v := .tuple #[.slice A (wrTo xs is.length).length c, .nilIface]) (by simp [results, Try.results22, go_sem]) rfl ⟨A, c, rfl, hAc, hcell, hb.trans (hb3.mono hb.size)⟩
  · have HE := Lib.hid he
    have hs : writesM ps is xs os = [] := if_neg he
    rw [hs]
    clear hs he
    go_enter Try.func22, Try.ntmps22
    go_wp2_with (go_at_call 23; refine (Check_any A1 A2 A3 A4 ps is xs os c1 c2 c3 c4 m _ (by simp; omega) (H1.out.below (b0 _) hm) (H2.out.below (b0 _) hm) (H3.out.below (b0 _) hm) (H4.out.below (b0 _) hm)).mono ?_; rintro e w1 ⟨rfl, hb⟩; rw [errV_n HE.out])
    refine bodyPost_ret (v := .tuple #[.slice none 0 0, errV (progErr ps is xs os)]) (by rw [errV_n HE.out]; simp [results, Try.results22, go_sem]) rfl ⟨none, 0, rfl, fun _ => rfl, CellsAt.nil_, (b0 _).trans (hb.mono (by simp))⟩
end Go.Proofs.Ytdhlmbnmgioeeaa
