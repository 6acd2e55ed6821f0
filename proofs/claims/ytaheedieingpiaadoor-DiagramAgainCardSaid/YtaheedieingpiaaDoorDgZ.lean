/- Places in a list; parts of a list. Condition: lists of at most a million. -/
import Derived.Test.YtaheedieingpiaaDoorDgX
import Derived.Test.YtaheedieingpiaaDoorDgY
namespace Go.Proofs.YtaheedieingpiaaDoor
set_option linter.unusedVariables false
set_option linter.unusedSimpArgs false
set_option linter.unusedSectionVars false
open Go.RowKit

theorem OwnI.cap {w : World} {base n c : Nat} {A : Option Addr} {xs : List Int} (h : OwnI w base (.slice A n c) xs) : xs.length ≤ c ∧ n = xs.length := by
  rcases h.2 with ⟨h0, h1⟩ | ⟨g, cap, cur, he, hb, hg, hn, hm, hs, ht⟩
  · simp only [Value.slice.injEq] at h0
    exact ⟨by omega, by omega⟩
  · simp only [Value.slice.injEq] at he
    exact ⟨by omega, by omega⟩
theorem CellsAt.part {w : World} {M : Nat} {A : Option Addr} {xs : List Int} (h : CellsAt w M A (ints xs)) (lo hi : Nat) (hne : ints ((xs.take hi).drop lo) ≠ []) :
    ∃ b off, A = some ⟨b, off, none⟩ ∧ CellsAt w M (some ⟨b, off + lo, none⟩) (ints ((xs.take hi).drop lo)) := by
  have hx : ints xs ≠ [] := by
    intro h0
    apply hne
    have : xs = [] := by simpa [ints] using h0
    subst this
    simp [ints]
  obtain ⟨b, off, hA, hb, hbs, hc⟩ := h hx
  refine ⟨b, off, hA, fun _ => ⟨b, off + lo, rfl, hb, hbs, fun j u hu => ?_⟩⟩
  rw [Nat.add_assoc]
  refine hc (lo + j) u ?_
  simp only [ints, List.getElem?_map, List.getElem?_drop] at hu ⊢
  obtain ⟨z, hz, rfl⟩ := Option.map_eq_some_iff.1 hu
  have hlt : lo + j < hi := by
    have := (List.getElem?_eq_some_iff.1 hz).1
    simp at this
    omega
  rw [List.getElem?_take_of_lt hlt] at hz
  rw [hz]
  rfl
theorem sz_int (w : World) : (sizeOf (Tryd.prog.elem 24)).run Tryd.prog w = .ok 1 w := by kernel_rfl
theorem sl_lh {w : World} {M : Nat} {A : Option Addr} {xs : List Int} {c : Nat} (h : CellsAt w M A (ints xs)) (lo hi : Nat) (h1 : lo ≤ hi) (h2 : hi ≤ xs.length) (h3 : xs.length ≤ c) :
    ∃ B r D, D = (xs.take hi).drop lo ∧ (∀ w', (Instr.slice 24 (.slice A xs.length c) (some (.int .i64 (lo : Int))) (some (.int .i64 (hi : Int))) none).run Tryd.prog w' = .ok (.slice B D.length r) w') ∧ CellsAt w M B (ints D) := by
  have hl : ((xs.take hi).drop lo).length = hi - lo := by simp; omega
  refine ⟨if c = lo then A else A.map (·.add (lo * 1)), c - lo, _, rfl, fun w' => ?_, fun hne => ?_⟩
  · rw [run_slice_lh w' 24 A xs.length c Tryd.underlying24 .i64 .i64 (lo : Int) (hi : Int) (by omega) (by omega) (by omega), sz_int]
    simp only [Result.andThen, sliced, Int.toNat_natCast, hl]
  · have hp : 0 < hi - lo := by
      rcases Nat.eq_zero_or_pos (hi - lo) with h0 | h0
      · exfalso; apply hne
        rw [List.eq_nil_of_length_eq_zero (l := (xs.take hi).drop lo) (by omega)]
        rfl
      · exact h0
    obtain ⟨b, off, rfl, hc⟩ := h.part lo hi hne
    rw [if_neg (by omega)]
    rw [Option.map_some, Nat.mul_one, Go.WideShapes.add_plain]
    exact hc hne
theorem sl_from {w : World} {M : Nat} {A : Option Addr} {xs : List Int} {c : Nat} (h : CellsAt w M A (ints xs)) (lo : Nat) (h1 : lo ≤ xs.length) (h3 : xs.length ≤ c) :
    ∃ B r D, D = xs.drop lo ∧ (∀ w', (Instr.slice 24 (.slice A xs.length c) (some (.int .i64 (lo : Int))) none none).run Tryd.prog w' = .ok (.slice B D.length r) w') ∧ CellsAt w M B (ints D) := by
  refine ⟨if c = lo then A else A.map (·.add (lo * 1)), c - lo, _, rfl, fun w' => ?_, fun hne => ?_⟩
  · rw [run_slice_l w' 24 A xs.length c Tryd.underlying24 .i64 (lo : Int) (by omega) (by omega), sz_int]
    simp only [Result.andThen, sliced, Int.toNat_natCast, List.length_drop]
  · have hp : 0 < xs.length - lo := by
      rcases Nat.eq_zero_or_pos (xs.length - lo) with h0 | h0
      · exfalso; apply hne
        rw [List.eq_nil_of_length_eq_zero (l := xs.drop lo) (by simp; omega)]
        rfl
      · exact h0
    have hp2 := h.part lo xs.length
    rw [List.take_length] at hp2
    obtain ⟨b, off, rfl, hc⟩ := hp2 hne
    rw [if_neg (by omega)]
    rw [Option.map_some, Nat.mul_one, Go.WideShapes.add_plain]
    exact hc hne
def placeRel (w : World) (xs : List Int) (n : Int) (i : Value) (wr : World) : Prop := ∃ k : Nat, k ≤ xs.length ∧ i = .int .i64 k ∧ n ∉ xs.take k ∧ wr = w
set_option maxRecDepth 100000 in
set_option maxHeartbeats 2000000 in
theorem place_any (A : Option Addr) (xs : List Int) (c m : Nat) (n : Int) (w : World) (h : CellsAt w m A (ints xs)) (hl : xs.length ≤ 1000000) :
    Calls Tryd.prog 20 #[.slice A xs.length c, .int .i64 n] w fun e w' => e = .returned (.int .i64 (placeI xs n)) ∧ w = w' := by
  have H := Lib.hid h
  clear h
  go_enter Tryd.func20, Tryd.ntmps20
  go_wp2_with fail
  go_loopw [9] (fun i wr => placeRel w xs n i wr) (fun i _ => xs.length - (intOf i).toNat)
  case atStart => exact ⟨0, Nat.zero_le _, rfl, by simp, rfl⟩
  case round =>
    obtain ⟨k, hk, rfl, ht, rfl⟩ := hrel
    have HT := Lib.hid ht
    clear ht
    by_cases hlt : k < xs.length
    · obtain ⟨b, off, x, rfl, hbm, hbs, hx, g⟩ := H.out.int_ hlt
      have HX := Lib.hid hx
      clear hx
      by_cases hxn : x = n
      · have e1 : (x == n) = true := by simpa using hxn
        have HN := Lib.hid hxn
        clear hxn
        go_wp2_with fail
        go_ret
        refine ⟨ret_int (Eq.symm (placeI_some ?_ HT.out)), rfl⟩
        rw [HX.out, HN.out]
      · have e1 : (x == n) = false := by simpa using hxn
        have HN := Lib.hid hxn
        clear hxn
        go_wp2_with fail
        refine ⟨⟨k + 1, by omega, by go_num, ?_, rfl⟩, by simp [intOf]; omega⟩
        rw [List.take_add_one, HX.out, List.mem_append]
        rintro (h | h)
        · exact HT.out h
        · simp at h; exact HN.out h.symm
    · go_wp2_with fail
      go_ret
      refine ⟨ret_int (Eq.symm (placeI_none ?_)), rfl⟩
      have h := HT.out
      rw [List.take_of_length_le (by omega)] at h
      exact h
end Go.Proofs.YtaheedieingpiaaDoor
