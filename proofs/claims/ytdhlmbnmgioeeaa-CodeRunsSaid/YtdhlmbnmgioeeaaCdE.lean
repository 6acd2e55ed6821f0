/- Whether a program is light, its first cells. No conditions. -/
import Derived.Test.YtdhlmbnmgioeeaaCdD
import Derived.Test.YtdhlmbnmgioeeaaOwn
namespace Go.Proofs.Ytdhlmbnmgioeeaa
set_option linter.unusedVariables false
set_option linter.unusedSimpArgs false
set_option linter.unusedSectionVars false
open Go.RowKit

def lightB (ps : List Prt) (is : List Int) (xs : List Ins) (os : List Int) : Bool := decide (ps.length ≤ 40 ∧ is.length ≤ 200 ∧ xs.length ≤ 300 ∧ os.length ≤ 40)

set_option maxHeartbeats 1000000 in
theorem light_any (A1 A2 A3 A4 : Option Addr) (ps : List Prt) (is : List Int) (xs : List Ins) (os : List Int) (c1 c2 c3 c4 : Nat) (w : World) :
    Calls Try.prog 11 #[.agg #[.slice A1 ps.length c1, .slice A2 is.length c2, .slice A3 xs.length c3, .slice A4 os.length c4]] w fun e w' => e = .returned (.bool (lightB ps is xs os)) ∧ Below w.heap.size w w' := by
  go_enter Try.func11, Try.ntmps11
  go_wp2_with fail
  all_goals
    go_ret
    exact ⟨ret_bool (by rw [Bool.eq_iff_iff]; simp only [lightB, decide_eq_true_eq, decide_eq_false_iff_not, Bool.true_eq_false, Bool.false_eq_true, true_iff, false_iff, iff_self]; omega), ext_alloc (Below.refl _ _) _⟩

def startM (ps : List Prt) (is : List Int) (xs : List Ins) (os : List Int) : List Int := if progErr ps is xs os = 0 then is else []

set_option maxHeartbeats 1000000 in
theorem start_any (A1 A2 A3 A4 : Option Addr) (ps : List Prt) (is : List Int) (xs : List Ins) (os : List Int) (c1 c2 c3 c4 m : Nat) (w : World) (hm : m ≤ w.heap.size) (h1 : CellsAt w m A1 (flat Prt.cells ps)) (h2 : CellsAt w m A2 (ints is)) (h3 : CellsAt w m A3 (flat Ins.cells xs)) (h4 : CellsAt w m A4 (ints os))
    (hn : A2 = none → c2 = 0) :
    Calls Try.prog 19 #[.agg #[.slice A1 ps.length c1, .slice A2 is.length c2, .slice A3 xs.length c3, .slice A4 os.length c4]] w fun e w' =>
      ∃ A c, e = .returned (.tuple #[.slice A (startM ps is xs os).length c, errV (progErr ps is xs os)]) ∧ (A = none → c = 0) ∧ CellsAt w' w'.heap.size A (ints (startM ps is xs os)) ∧ Below w.heap.size w w' := by
  have H1 := Lib.hid h1
  have H2 := Lib.hid h2
  have H3 := Lib.hid h3
  have H4 := Lib.hid h4
  have HN := Lib.hid hn
  clear h1 h2 h3 h4 hn
  by_cases he : progErr ps is xs os = 0
  · have HE := Lib.hid he
    have hs : startM ps is xs os = is := if_pos he
    rw [hs, he]
    clear hs
    have HL : is.length ≤ 192 := by
      have := HE.out
      simp only [progErr] at this
      split at this
      · simp at this
      · rename_i h; omega
    go_enter Try.func19, Try.ntmps19
    have b0 : ∀ vs : Array Value, Below w.heap.size w (w.alloc (.cells vs 26)) := fun _ => ext_alloc (Below.refl _ _) _
    go_wp2_with (first
      | (go_at_call 23; refine (Check_any A1 A2 A3 A4 ps is xs os c1 c2 c3 c4 m _ (by simp; omega) (H1.out.below (b0 _) hm) (H2.out.below (b0 _) hm) (H3.out.below (b0 _) hm) (H4.out.below (b0 _) hm)).mono ?_; rintro e w1 ⟨rfl, hb⟩; rw [HE.out, errV_0]; obtain ⟨hc, hf, hs, hz⟩ := ext_at (m := w.heap.size + 1) hb (by simp) (by simp))
      | (at_builtin; refine app_ints rfl _ _ rfl w.heap.size _ [] is A2 c2 m rfl (OwnI.lit0 (by have := hb.size; simp at this; omega)) rfl HN.out (((H2.out.below (b0 _) hm).below hb (by simp; omega)).below (ext_alloc (Below.refl _ _) _) (by have := hb.size; simp at this; omega)) (by simp; omega) (by have := hb.size; simp at this; simp; omega) ?_; intro v' w2 hown hg hb2))
    obtain ⟨A, c, rfl, hAc, hcell⟩ := hown.view
    simp only [List.nil_append] at *
    refine bodyPost_ret (v := .tuple #[.slice A is.length c, .nilIface]) (by simp [results, Try.results19, go_sem]) rfl ⟨A, c, rfl, hAc, hcell, ?_⟩
    have h01 : Below w.heap.size w w1 := (b0 _).trans (hb.mono (by simp))
    exact (h01.alloc (by have := hb.size; simp at this; omega) _).trans hb2
  · have HE := Lib.hid he
    have hs : startM ps is xs os = [] := if_neg he
    rw [hs]
    clear hs he
    have b0 : ∀ vs : Array Value, Below w.heap.size w (w.alloc (.cells vs 26)) := fun _ => ext_alloc (Below.refl _ _) _
    go_enter Try.func19, Try.ntmps19
    go_wp2_with (go_at_call 23; refine (Check_any A1 A2 A3 A4 ps is xs os c1 c2 c3 c4 m _ (by simp; omega) (H1.out.below (b0 _) hm) (H2.out.below (b0 _) hm) (H3.out.below (b0 _) hm) (H4.out.below (b0 _) hm)).mono ?_; rintro e w1 ⟨rfl, hb⟩; rw [errV_n HE.out])
    refine bodyPost_ret (v := .tuple #[.slice none 0 0, errV (progErr ps is xs os)]) (by rw [errV_n HE.out]; simp [results, Try.results19, go_sem]) rfl ⟨none, 0, rfl, fun _ => rfl, CellsAt.nil_, (b0 _).trans (hb.mono (by simp))⟩
end Go.Proofs.Ytdhlmbnmgioeeaa
