/- code.Run: what it leaves, or the first error: the first two errors. No conditions. -/
import Derived.Test.YtdhlmbnmgioeeaaCdJ0
namespace Go.Proofs.Ytdhlmbnmgioeeaa
set_option linter.unusedVariables false
set_option linter.unusedSimpArgs false
set_option linter.unusedSectionVars false
open Go.RowKit

theorem blk1 (w : World) (o : Obj) (vs : List Value) (t : TypeId) : Blk ((w.alloc o).alloc (.cells vs.toArray t)) (w.heap.size + 1) vs t := by
  have := Blk.new_ (w.alloc o) vs t
  simpa using this
theorem box1 (w : World) (vs : List Value) (t : TypeId) (o : Obj) : BoxAt ((w.alloc (.cells vs.toArray t)).alloc o) w.heap.size vs :=
  (BoxAt.new_ w vs t).below (B := w.heap.size + 1) ((Below.refl _ _).alloc (by simp) o) (by omega)

set_option maxRecDepth 100000 in
set_option maxHeartbeats 4000000 in
theorem run_bad1 (A1 A2 A3 A4 A5 A6 : Option Addr) (ps : List Prt) (is : List Int) (xs : List Ins) (os cs inn : List Int) (c1 c2 c3 c4 c5 c6 m : Nat) (w : World) (hm : m ≤ w.heap.size) (h1 : CellsAt w m A1 (flat Prt.cells ps)) (h2 : CellsAt w m A2 (ints is)) (h3 : CellsAt w m A3 (flat Ins.cells xs)) (h4 : CellsAt w m A4 (ints os))
    (he : progErr ps is xs os ≠ 0) :
    Calls Try.prog 12 #[.agg #[.slice A1 ps.length c1, .slice A2 is.length c2, .slice A3 xs.length c3, .slice A4 os.length c4], .slice A5 cs.length c5, .slice A6 inn.length c6] w (RunPost w (runM ps is xs os cs inn) (runErr ps is xs os cs inn)) := by
  have HE := Lib.hid he
  have HR := Lib.hid (runErr_prog (cs := cs) (inn := inn) he)
  clear he
  have b0 : ∀ (vs us : Array Value), Below w.heap.size w ((w.alloc (.cells vs 26)).alloc (.cells us 32)) := fun _ _ => ext_alloc (ext_alloc (Below.refl _ _) _) _
  go_enter Try.func12, Try.ntmps12
  go_wp2_with (go_at_call 23; refine (Check_any A1 A2 A3 A4 ps is xs os c1 c2 c3 c4 m _ (by simp; omega) (h1.below (b0 _ _) hm) (h2.below (b0 _ _) hm) (h3.below (b0 _ _) hm) (h4.below (b0 _ _) hm)).mono ?_; rintro e w1 ⟨rfl, hb⟩; rw [errV_n HE.out]; obtain ⟨hc, hf, hs, hz⟩ := ext_at (m := w.heap.size + 2) hb (by simp) (by simp); have hB : Blk w1 (w.heap.size + 1) [.slice none 0 0, .slice none 0 0, .bool false] 32 := (blk1 w _ _ _).below hb (by simp); have b1 : Below w.heap.size w w1 := (b0 _ _).trans (hb.mono (by simp; omega)); have hX : BoxAt w1 w.heap.size [.slice A1 ps.length c1, .slice A2 is.length c2, .slice A3 xs.length c3, .slice A4 os.length c4] := (box1 w _ _ _).below hb (by simp; omega); clear hb)
  exact bodyPost_ret (res_run (ev := .iface 65 (.int .i64 (progErr ps is xs os))) rfl rfl (((hB.set_ 0 _).set_ 1 _).set_ 2 _)) rfl (RunPost.zero (runM_err HR.out HE.out) (((b1.setCell (by simp) _).setCell (by simp) _).setCell (by simp) _) (by rw [HR.out, errV_n HE.out]))

set_option maxRecDepth 100000 in
set_option maxHeartbeats 4000000 in
theorem run_bad2 (A1 A2 A3 A4 A5 A6 : Option Addr) (ps : List Prt) (is : List Int) (xs : List Ins) (os cs inn : List Int) (c1 c2 c3 c4 c5 c6 m : Nat) (w : World) (hm : m ≤ w.heap.size) (h1 : CellsAt w m A1 (flat Prt.cells ps)) (h2 : CellsAt w m A2 (ints is)) (h3 : CellsAt w m A3 (flat Ins.cells xs)) (h4 : CellsAt w m A4 (ints os))
    (he : progErr ps is xs os = 0) (hl : cs.length ≠ is.length) :
    Calls Try.prog 12 #[.agg #[.slice A1 ps.length c1, .slice A2 is.length c2, .slice A3 xs.length c3, .slice A4 os.length c4], .slice A5 cs.length c5, .slice A6 inn.length c6] w (RunPost w (runM ps is xs os cs inn) (runErr ps is xs os cs inn)) := by
  have HE := Lib.hid he
  have HR := Lib.hid (runErr_len (inn := inn) he hl)
  have e1 : ((cs.length : Int) != (is.length : Int)) = true := by simp; omega
  clear he hl
  have b0 : ∀ (vs us : Array Value), Below w.heap.size w ((w.alloc (.cells vs 26)).alloc (.cells us 32)) := fun _ _ => ext_alloc (ext_alloc (Below.refl _ _) _) _
  go_enter Try.func12, Try.ntmps12
  go_wp2_with (go_at_call 23; refine (Check_any A1 A2 A3 A4 ps is xs os c1 c2 c3 c4 m _ (by simp; omega) (h1.below (b0 _ _) hm) (h2.below (b0 _ _) hm) (h3.below (b0 _ _) hm) (h4.below (b0 _ _) hm)).mono ?_; rintro e w1 ⟨rfl, hb⟩; rw [HE.out, errV_0]; obtain ⟨hc, hf, hs, hz⟩ := ext_at (m := w.heap.size + 2) hb (by simp) (by simp); have hB : Blk w1 (w.heap.size + 1) [.slice none 0 0, .slice none 0 0, .bool false] 32 := (blk1 w _ _ _).below hb (by simp); have b1 : Below w.heap.size w w1 := (b0 _ _).trans (hb.mono (by simp; omega)); have hX : BoxAt w1 w.heap.size [.slice A1 ps.length c1, .slice A2 is.length c2, .slice A3 xs.length c3, .slice A4 os.length c4] := (box1 w _ _ _).below hb (by simp; omega); clear hb)
  exact bodyPost_ret (res_run (ev := .iface 65 (.int .i64 11)) rfl rfl (((hB.set_ 0 _).set_ 1 _).set_ 2 _)) rfl (RunPost.zero (runM_err HR.out (by decide)) (((b1.setCell (by simp) _).setCell (by simp) _).setCell (by simp) _) (by rw [HR.out, errV_n (by decide)]))
end Go.Proofs.Ytdhlmbnmgioeeaa
