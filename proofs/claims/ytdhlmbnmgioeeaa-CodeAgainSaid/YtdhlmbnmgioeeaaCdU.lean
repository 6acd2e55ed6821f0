/- The plain laws behind CodeAgain; a slice of 32-bit numbers that came in. No conditions. -/
import Derived.Test.YtdhlmbnmgioeeaaCdT
namespace Go.Proofs.Ytdhlmbnmgioeeaa
set_option linter.unusedVariables false
set_option linter.unusedSimpArgs false
set_option linter.unusedSectionVars false
open Go.ChangeShapes Go.WideShapes Go.ChangeAt Go.RowKit Go.Joins Go.Deep

def agX : List Ins := [⟨0, 0, 0, 0, 0, 0, 0⟩, ⟨3, 1, 0, 1, 0, 0, 0⟩]
def agP : List Prt := [⟨-2147483648, 2147483647, 0⟩]
theorem ag_err : progErr agP [0, 0] agX [1] = 0 := by kernel_rfl
theorem scl0 {n : Int} (h : shortB n = true) : scl n 0 = n := by
  have := shortB_t h
  simp only [scl]
  rw [if_neg (by omega)]
  simp
  omega
theorem ag_run {x sm n : Int} (hx : shortB x = true) (hs : shortB sm = true) (hn : shortB n = true) :
    runM agP [0, 0] agX [1] [x, sm] [n] = ⟨[n, cut32 (n + sm)], [cut32 (n + sm)], !shortB (n + sm)⟩ ∧ runErr agP [0, 0] agX [1] [x, sm] [n] = 0 := by
  have bn := shortB_t hn
  have bs := shortB_t hs
  have h0 : runErr agP [0, 0] agX [1] [x, sm] [n] = 0 := run_noerr ag_err rfl (fun z hz => by
    simp at hz
    rcases hz with rfl | rfl
    · exact hx
    · exact hs) rfl (fun z hz => by
    simp [agP, inErr] at hz
    rw [hz]
    rw [if_pos (by omega)])
  refine ⟨?_, h0⟩
  rw [runM_ok h0]
  have w1 : wrap64 (n + sm) = n + sm := wrap_id (by omega) (by omega)
  simp [runR, agX, stepR, insVal, outsOf, scl0 hn, scl0 hs, w1, hn, cut_short hn]
/-- A cell that is a slice of 32-bit numbers. -/
def i32s (zs : List Int) : List Value := zs.map (Value.int .i32)
section
variable {H : Type} {enc : TypeId × Value → H} {P : Program} {w : World} {spare : Nat → Bool} {held : Bool}
theorem i32s_of {r : Reach} {b0 : Nat} {t e : TypeId} {v : Value} {d : DataW H} {p : List MemPlace} (ht : P.underlying t = some (.slice e)) (he : P.underlying e = some (.int .i32)) (hc : P.cellsOf e = 1)
    (hv : Value.okWide P w r b0 t v) (h : DataW.Trod enc P w 0 spare held t v d p) :
    ∃ (A : Option Addr) (cap : Nat) (zs : List Int), v = .slice A zs.length cap ∧ CellsAt w w.heap.size A (i32s zs) ∧ (∀ z ∈ zs, -2147483648 ≤ z ∧ z ≤ 2147483647) := by
  obtain ⟨a0, len0, cap0, rfl⟩ := okWide_slice ht hv
  obtain ⟨fuel, hf⟩ := h
  have hf' : DataW.trod enc P w 0 spare held fuel t [.slice a0 len0 cap0] = some (d, p) := hf
  rcases open_ints ht he hc hf' with ⟨hcs, _⟩ | ⟨a, len, cap, zs, hcs, _, hl, hm, hz, _, hcell, hwz⟩
  · exact ⟨none, 0, [], by simpa using hcs, CellsAt.nil_, by simp⟩
  · have hle : len ≤ zs.length := by rw [hz]; split <;> omega
    have hlen : (zs.take len).length = len := by simp; omega
    refine ⟨some a, cap, zs.take len, by rw [hlen]; simpa using hcs, fun hx => ?_, fun z h => by
      have hw := hwz z (List.mem_of_mem_take h)
      exact bounds_i32 hw⟩
    have hp : 0 < len := by
      rcases Nat.eq_zero_or_pos len with h0 | h0
      · subst h0; simp [i32s] at hx
      · exact h0
    obtain ⟨b, off, rfl, hcell'⟩ := ints_at hcell (by omega)
    have h0 := hcell' 0 (by omega)
    have hb : b < w.heap.size := by
      rcases Nat.lt_or_ge b w.heap.size with h | h
      · exact h
      · simp [World.cell?, Array.getElem?_eq_none h] at h0
    refine ⟨b, off, rfl, hb, hb, fun j u hu => ?_⟩
    have hj : j < len := by
      have := (List.getElem?_eq_some_iff.1 hu).1
      simp only [i32s, List.length_map, hlen] at this
      exact this
    rw [hcell' j (by omega)]
    simp only [i32s, List.getElem?_map, List.getElem?_take, if_pos hj] at hu
    obtain ⟨z, hz1, rfl⟩ := Option.map_eq_some_iff.1 hu
    simp [hz1]
end
theorem CellsAt.i32_ {w : World} {m : Nat} {A : Option Addr} {zs : List Int} (h : CellsAt w m A (i32s zs)) {k : Nat} (hk : k < zs.length) :
    ∃ b off z, A = some ⟨b, off, none⟩ ∧ b < m ∧ b < w.heap.size ∧ zs[k]? = some z ∧ w.cell? ⟨b, off + k, none⟩ = some (.int .i32 z) := by
  obtain ⟨b, off, hA, hbm, hbs, hc⟩ := h (fun h0 => by have : (i32s zs).length = zs.length := by simp [i32s]
                                                       rw [h0] at this; simp at this; omega)
  exact ⟨b, off, zs[k], hA, hbm, hbs, List.getElem?_eq_getElem hk, hc k _ (by simp [i32s, hk])⟩
/-- Four lists laid anew. -/
theorem new4 (w0 : World) (A B C D : List Value) (tA tB tC tD : TypeId) :
    ∃ wB, wB = ((((w0.alloc (.cells A.toArray tA)).alloc (.cells B.toArray tB)).alloc (.cells C.toArray tC)).alloc (.cells D.toArray tD)) ∧ wB.heap.size = w0.heap.size + 1 + 1 + 1 + 1 ∧ Below w0.heap.size w0 wB ∧
    CellsAt wB wB.heap.size (some ⟨w0.heap.size, 0, none⟩) A ∧ CellsAt wB wB.heap.size (some ⟨w0.heap.size + 1, 0, none⟩) B ∧ CellsAt wB wB.heap.size (some ⟨w0.heap.size + 1 + 1, 0, none⟩) C ∧ CellsAt wB wB.heap.size (some ⟨w0.heap.size + 1 + 1 + 1, 0, none⟩) D := by
  have h1 := (((Blk.new w0 A tA _ rfl).old (.cells B.toArray tB)).old (.cells C.toArray tC)).old (.cells D.toArray tD)
  have h2 := ((Blk.new (w0.alloc (.cells A.toArray tA)) B tB (w0.heap.size + 1) (by simp)).old (.cells C.toArray tC)).old (.cells D.toArray tD)
  have h3 := (Blk.new ((w0.alloc (.cells A.toArray tA)).alloc (.cells B.toArray tB)) C tC (w0.heap.size + 1 + 1) (by simp)).old (.cells D.toArray tD)
  have h4 := Blk.new (((w0.alloc (.cells A.toArray tA)).alloc (.cells B.toArray tB)).alloc (.cells C.toArray tC)) D tD (w0.heap.size + 1 + 1 + 1) (by simp)
  exact ⟨_, rfl, by simp, (((((Below.refl w0.heap.size w0).alloc (Nat.le_refl _) _).alloc (by simp) _).alloc (by simp; omega) _).alloc (by simp; omega) _), h1.cells_ h1.lt, h2.cells_ h2.lt, h3.cells_ h3.lt, h4.cells_ h4.lt⟩
end Go.Proofs.Ytdhlmbnmgioeeaa
