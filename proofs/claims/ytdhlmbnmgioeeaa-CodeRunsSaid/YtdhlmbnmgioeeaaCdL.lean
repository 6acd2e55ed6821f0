/- code.Run: what it leaves, or the first error; the examples. No conditions. -/
import Derived.Test.YtdhlmbnmgioeeaaCdK
namespace Go.Proofs.Ytdhlmbnmgioeeaa
set_option linter.unusedVariables false
set_option linter.unusedSimpArgs false
set_option linter.unusedSectionVars false
open Go.RowKit

theorem run_any (A1 A2 A3 A4 A5 A6 : Option Addr) (ps : List Prt) (is : List Int) (xs : List Ins) (os cs inn : List Int) (c1 c2 c3 c4 c5 c6 m : Nat) (w : World) (hm : m ≤ w.heap.size) (h1 : CellsAt w m A1 (flat Prt.cells ps)) (h2 : CellsAt w m A2 (ints is)) (h3 : CellsAt w m A3 (flat Ins.cells xs)) (h4 : CellsAt w m A4 (ints os))
    (h5 : CellsAt w m A5 (ints cs)) (h6 : CellsAt w m A6 (ints inn)) (hn5 : A5 = none → c5 = 0) (r : RunD) (er : Int) (hr : runM ps is xs os cs inn = r) (he : runErr ps is xs os cs inn = er) :
    Calls Try.prog 12 #[.agg #[.slice A1 ps.length c1, .slice A2 is.length c2, .slice A3 xs.length c3, .slice A4 os.length c4], .slice A5 cs.length c5, .slice A6 inn.length c6] w (RunPost w r er) := by
  subst hr he
  by_cases he : progErr ps is xs os = 0
  · by_cases hl : cs.length = is.length
    · exact run_ok A1 A2 A3 A4 A5 A6 ps is xs os cs inn c1 c2 c3 c4 c5 c6 m w hm h1 h2 h3 h4 h5 h6 hn5 he hl
    · exact run_bad2 A1 A2 A3 A4 A5 A6 ps is xs os cs inn c1 c2 c3 c4 c5 c6 m w hm h1 h2 h3 h4 he hl
  · exact run_bad1 A1 A2 A3 A4 A5 A6 ps is xs os cs inn c1 c2 c3 c4 c5 c6 m w hm h1 h2 h3 h4 he

theorem Blk.cells_ {w : World} {b m t : Nat} {vs : List Value} (h : Blk w b vs t) (hb : b < m) : CellsAt w m (some ⟨b, 0, none⟩) vs := fun _ => ⟨b, 0, rfl, hb, h.lt, fun j u hu => by
  rw [Nat.zero_add, h.cell]
  exact hu⟩

def awP (k : Nat) : List Ins := if k = 0 then [⟨3, 2, 0, 1, 1, -1, 0⟩] else [⟨6, 2, 0, 0, 0, 0, 1073741824⟩]
theorem aw1 : runM [] [5, -3, 0] [⟨3, 2, 0, 1, 1, -1, 0⟩] [2] [5, -3, 0] [] = ⟨[5, -3, 8], [8], false⟩ := by kernel_rfl
theorem aw2 : runM [] [5, -3, 0] [⟨6, 2, 0, 0, 0, 0, 1073741824⟩] [2] [5, -3, 0] [] = ⟨[5, -3, 2147483647], [2147483647], true⟩ := by kernel_rfl
theorem aw3 : runErr [] [5, -3, 0] [⟨3, 2, 0, 1, 1, -1, 0⟩] [2] [5, -3, 0] [] = 0 := by kernel_rfl
theorem aw4 : runErr [] [5, -3, 0] [⟨6, 2, 0, 0, 0, 0, 1073741824⟩] [2] [5, -3, 0] [] = 0 := by kernel_rfl
end Go.Proofs.Ytdhlmbnmgioeeaa
