/- The fixed fact 'awake': the example's five ticks. -/
import Derived.Test.YthcnepmimoldhaaC
import Derived.Deep.RegionHeld3
namespace Go.Proofs.Ythcnepmimoldhaa
open Go.RowKit

def awS (k : Nat) : Int := [0, 8192, 16384, 24576, 24576, 22528].getD k 0
def awT : Array Value := #[.int .i64 4, .int .i64 6, .int .i64 8192, .int .i64 4, .int .i64 8, .int .i64 16384, .int .i64 4, .int .i64 10, .int .i64 24576, .int .i64 4, .int .i64 10, .int .i64 24576, .int .i64 (-1), .int .i64 4, .int .i64 22528]
def awRel (w : World) (i : Value) (wr : World) : Prop := ∃ k : Nat, k ≤ 5 ∧ i = .int .i64 k ∧ wr.cell? ⟨w.heap.size, 0, none⟩ = some (.int .i64 (awS k)) ∧ wr.frozen? ⟨w.heap.size, 0, none⟩ = false ∧ (∀ j, wr.cell? ⟨w.heap.size + 1, j, none⟩ = awT[j]?) ∧ w.heap.size + 2 ≤ wr.heap.size ∧ Below w.heap.size w wr

def KeepS (W1 : World) (m : Nat) (w' : World) : Prop := Below m W1 w' ∧ m ≤ w'.heap.size
theorem KeepS.refl {w : World} {m : Nat} (h : m ≤ w.heap.size) : KeepS w m w := ⟨Below.refl _ _, h⟩
theorem KeepS.alloc {W1 w' : World} {m : Nat} (h : KeepS W1 m w') (o : Obj) : KeepS W1 m (w'.alloc o) := ⟨h.1.alloc h.2 o, Nat.le_trans h.2 (by simp)⟩
theorem KeepS.drew {W1 w' : World} {m : Nat} (h : KeepS W1 m w') : KeepS W1 m w'.drew := ⟨h.1.drew, h.2⟩
theorem KeepS.call {W1 w' w'' : World} {m : Nat} (h : KeepS W1 m w') (hb : Below w'.heap.size w' w'') : KeepS W1 m w'' := ⟨h.1.trans (hb.mono h.2), Nat.le_trans h.2 hb.size⟩
theorem KeepS.set {W1 w' : World} {m : Nat} (h : KeepS W1 m w') {p : Addr} (hp : m ≤ p.block) (u : Value) : KeepS W1 m (w'.setCell p u) := ⟨h.1.setCell hp u, by simpa [World.setCell] using h.2⟩
theorem KeepS.all {W1 w' : World} {m : Nat} (h : KeepS W1 m w') : (∀ b o, b < m → w'.cell? ⟨b, o, none⟩ = W1.cell? ⟨b, o, none⟩) ∧ (∀ b o, b < m → w'.frozen? ⟨b, o, none⟩ = W1.frozen? ⟨b, o, none⟩) ∧ (∀ n, n < m → n < w'.heap.size) ∧ KeepS W1 m w' :=
  ⟨fun b o hb => h.1.cell (p := ⟨b, o, none⟩) hb, fun b o hb => h.1.frozen (p := ⟨b, o, none⟩) hb, fun _ hn => Nat.lt_of_lt_of_le hn h.2, h⟩

section
variable {W1 w' w'' : World} {m : Nat} {A B C : Prop}
theorem KS.alloc (h : A ∧ B ∧ C ∧ KeepS W1 m w') (o : Obj) : KeepS W1 m (w'.alloc o) := h.2.2.2.alloc o
theorem KS.call (hb : Below w'.heap.size w' w'') (h : A ∧ B ∧ C ∧ KeepS W1 m w') : KeepS W1 m w'' := h.2.2.2.call hb
theorem KS.set (h : A ∧ B ∧ C ∧ KeepS W1 m w') {p : Addr} (hp : m ≤ p.block) (u : Value) : KeepS W1 m (w'.setCell p u) := h.2.2.2.set hp u
theorem KS.again {o : Obj} (h : A ∧ B ∧ C ∧ KeepS W1 m (w'.alloc o)) (hm : m ≤ w'.heap.size) (o' : Obj) : KeepS W1 m (w'.alloc o') := by
  obtain ⟨_, _, _, hb, hs⟩ := h
  refine ⟨⟨hb.os, hb.tape, hb.output, by simpa using hb.size, fun k hk => ?_⟩, by simp; omega⟩
  rw [← hb.block k hk, Below.heap_alloc _ _ _ (by omega), Below.heap_alloc _ _ _ (by omega)]
end
theorem un_drew {W w1 : World} (h : Below W.drew.heap.size W.drew w1) : Below W.heap.size W w1 := ⟨h.os, h.tape, h.output, h.size, h.block⟩
theorem ext3 {W w1 : World} (hb : Below W.heap.size W w1) : (∀ b o, b < W.heap.size → w1.cell? ⟨b, o, none⟩ = W.cell? ⟨b, o, none⟩) ∧ (∀ b o, b < W.heap.size → w1.frozen? ⟨b, o, none⟩ = W.frozen? ⟨b, o, none⟩) ∧ (∀ n, n < W.heap.size → n < w1.heap.size) :=
  ⟨(ext_cells hb).1, (ext_cells hb).2, fun _ h => Nat.lt_of_lt_of_le h hb.size⟩

theorem aw_end {w w' : World} {k : Nat} (h : k ≤ 5) (h1 : w'.cell? ⟨w.heap.size, 0, none⟩ = some (.int .i64 (awS k))) (h2 : w'.frozen? ⟨w.heap.size, 0, none⟩ = false) (h3 : ∀ j, w'.cell? ⟨w.heap.size + 1, j, none⟩ = awT[j]?) (h4 : w.heap.size + 2 ≤ w'.heap.size) (h5 : Below w.heap.size w w') : awRel w (.int .i64 k) w' :=
  ⟨k, h, rfl, h1, h2, h3, h4, h5⟩

theorem aw_close {A B C : Prop} {w W1 w' : World} {m : Nat} {u : Value} {v i : Int} (h : A ∧ B ∧ C ∧ KeepS W1 m w') (hm : w.heap.size + 2 ≤ m) (hT : Hid (∀ j, W1.cell? ⟨w.heap.size + 1, j, none⟩ = awT[j]?)) (s1 : W1.cell? ⟨w.heap.size, 0, none⟩ = some u) (f1 : W1.frozen? ⟨w.heap.size, 0, none⟩ = false)
    (hb1 : Below w.heap.size w W1) (k : Nat) (hk : k ≤ 5) (hi : i = k) (hv : v = awS k) : awRel w (.int .i64 i) (w'.setCell ⟨w.heap.size, 0, none⟩ (.int .i64 v)) := by
  obtain ⟨_, _, _, hx, hs⟩ := h
  subst hi hv
  refine aw_end hk ?_ ?_ ?_ ?_ ?_
  · exact World.cell?_setCell_same _ _ _ ((hx.cell (p := ⟨w.heap.size, 0, none⟩) (by show w.heap.size < m; omega)).trans s1)
  · simpa using (hx.frozen (p := ⟨w.heap.size, 0, none⟩) (by show w.heap.size < m; omega)).trans f1
  · intro j
    rw [World.cell?_setCell_other _ _ _ _ (by simp), hx.cell (p := ⟨w.heap.size + 1, j, none⟩) (by show w.heap.size + 1 < m; omega)]
    exact hT j
  · simp; omega
  · exact (hb1.trans (hx.mono (by omega))).setCell (Nat.le_refl _) _

set_option maxHeartbeats 4000000 in
theorem awake_any (w : World) : Calls Try.prog 8 #[] w fun r w' => r = .returned (.bool true) ∧ Below w.heap.size w w' := by
  go_enter Try.func8, Try.ntmps8
  go_wp2
  go_loopw [15] (fun i wr => awRel w i wr) (fun i _ => 5 - (intOf i).toNat)
  case atStart =>
    refine ⟨0, by omega, rfl, ?_, ?_, ?_, by simp, ext_alloc (ext_alloc (Below.refl _ _) _) _⟩
    · simp [go_sem, awS]
    · simp [go_sem]
    · intro j
      simp [go_sem, awT]
  case round =>
    obtain ⟨k, hk, rfl, hs, hfs, ht, hz, hb⟩ := hrel
    have z0 : w.heap.size < wr.heap.size := by omega
    have z1 : w.heap.size + 1 < wr.heap.size := by omega
    have HT : Hid (∀ j, wr.cell? ⟨w.heap.size + 1, j, none⟩ = awT[j]?) := ht
    have hk5 : k = 0 ∨ k = 1 ∨ k = 2 ∨ k = 3 ∨ k = 4 ∨ k = 5 := by omega
    rcases hk5 with rfl | rfl | rfl | rfl | rfl | rfl
    · have t0 : wr.cell? ⟨w.heap.size + 1, 0, none⟩ = some (.int .i64 4) := ht 0
      have t1 : wr.cell? ⟨w.heap.size + 1, 1, none⟩ = some (.int .i64 6) := ht 1
      have t2 : wr.cell? ⟨w.heap.size + 1, 2, none⟩ = some (.int .i64 8192) := ht 2
      clear ht
      have hs : wr.cell? ⟨w.heap.size, 0, none⟩ = some (.int .i64 0) := hs
      have eS : stepS 4096 2048 (-10) 10 0 4 = 8192 := by decide
      have eO : stepO 4096 2048 (-10) 10 0 4 = 6 := by decide
      go_wp2_with fail
      obtain ⟨W1, hW1⟩ : ∃ W1 : World, W1 = wr.alloc (Obj.cells #[Value.int IntKind.i64 4, Value.int IntKind.i64 6, Value.int IntKind.i64 8192] 49) := ⟨_, rfl⟩
      have x0 : W1.cell? ⟨wr.heap.size, 0, none⟩ = some (.int .i64 4) := by rw [hW1]; simp [go_sem]
      have x1 : W1.cell? ⟨wr.heap.size, 1, none⟩ = some (.int .i64 6) := by rw [hW1]; simp [go_sem]
      have x2 : W1.cell? ⟨wr.heap.size, 2, none⟩ = some (.int .i64 8192) := by rw [hW1]; simp [go_sem]
      have s1 : W1.cell? ⟨w.heap.size, 0, none⟩ = some (.int .i64 0) := by rw [hW1]; simpa [go_sem, z0] using hs
      have HT1 : Hid (∀ j, W1.cell? ⟨w.heap.size + 1, j, none⟩ = awT[j]?) := fun j => by rw [hW1]; rw [← HT.out j]; simp [go_sem, z1]
      have hk1 : KeepS W1 (wr.heap.size + 1) W1 := KeepS.refl (by rw [hW1]; simp)
      have z2 : w.heap.size < wr.heap.size + 1 := by omega
      have f1 : W1.frozen? ⟨w.heap.size, 0, none⟩ = false := by rw [hW1]; simpa [go_sem, z0] using hfs
      have hb1 : Below w.heap.size w W1 := by rw [hW1]; exact ext_alloc hb _
      have z3 : wr.heap.size + 1 ≤ W1.heap.size := by rw [hW1]; simp
      rw [← hW1]
      clear hW1
      go_region_held3 (fun w' => (∀ b o, b < wr.heap.size + 1 → w'.cell? ⟨b, o, none⟩ = W1.cell? ⟨b, o, none⟩) ∧ (∀ b o, b < wr.heap.size + 1 → w'.frozen? ⟨b, o, none⟩ = W1.frozen? ⟨b, o, none⟩) ∧ (∀ n, n < wr.heap.size + 1 → n < w'.heap.size) ∧ KeepS W1 (wr.heap.size + 1) w')
        (first
          | (refine KeepS.all ?_
             first
                 | exact hk1
                 | exact KeepS.drew hk1
                 | exact KeepS.alloc (KeepS.drew hk1) _
                 | exact KeepS.call (KeepS.drew hk1) (by assumption)
                 | exact KS.alloc (by assumption) _
                 | first | exact KS.call (by assumption) (by assumption) | exact KeepS.call hk1 (by assumption) | exact KeepS.call (hk1.alloc _) (by assumption)
                 | exact KS.set (by assumption) (by simp at *; omega) _
                 | exact KS.again (by assumption) (by simp at *; omega) _))
        (first
          | (go_at_call 18; refine (example_any _).mono ?_; rintro e w5 ⟨rfl, hb5⟩; (try replace hb5 := un_drew hb5); obtain ⟨hc5, hf5, hz5⟩ := ext3 hb5; have hq5 := hb5.size; (try have zz5 : W1.heap.size < w5.heap.size := (by simp at hq5; omega)))
          | (go_at_call 9; refine (step_ok _ _ _ _ _ _ _ ?_).mono ?_; (unfold okC; omega); rintro e w5 ⟨rfl, hb5⟩; (try replace hb5 := un_drew hb5); obtain ⟨hc5, hf5, hz5⟩ := ext3 hb5; have hq5 := hb5.size; (try have zz5 : W1.heap.size < w5.heap.size := (by simp at hq5; omega))))
      all_goals go_wp2
      all_goals
        refine ⟨?_, by simp [intOf]⟩
        exact aw_close (by assumption) (by omega) HT1 s1 f1 hb1 1 (by omega) rfl eS
    · have t0 : wr.cell? ⟨w.heap.size + 1, 3, none⟩ = some (.int .i64 4) := ht 3
      have t1 : wr.cell? ⟨w.heap.size + 1, 4, none⟩ = some (.int .i64 8) := ht 4
      have t2 : wr.cell? ⟨w.heap.size + 1, 5, none⟩ = some (.int .i64 16384) := ht 5
      clear ht
      have hs : wr.cell? ⟨w.heap.size, 0, none⟩ = some (.int .i64 8192) := hs
      have eS : stepS 4096 2048 (-10) 10 8192 4 = 16384 := by decide
      have eO : stepO 4096 2048 (-10) 10 8192 4 = 8 := by decide
      go_wp2_with fail
      obtain ⟨W1, hW1⟩ : ∃ W1 : World, W1 = wr.alloc (Obj.cells #[Value.int IntKind.i64 4, Value.int IntKind.i64 8, Value.int IntKind.i64 16384] 49) := ⟨_, rfl⟩
      have x0 : W1.cell? ⟨wr.heap.size, 0, none⟩ = some (.int .i64 4) := by rw [hW1]; simp [go_sem]
      have x1 : W1.cell? ⟨wr.heap.size, 1, none⟩ = some (.int .i64 8) := by rw [hW1]; simp [go_sem]
      have x2 : W1.cell? ⟨wr.heap.size, 2, none⟩ = some (.int .i64 16384) := by rw [hW1]; simp [go_sem]
      have s1 : W1.cell? ⟨w.heap.size, 0, none⟩ = some (.int .i64 8192) := by rw [hW1]; simpa [go_sem, z0] using hs
      have HT1 : Hid (∀ j, W1.cell? ⟨w.heap.size + 1, j, none⟩ = awT[j]?) := fun j => by rw [hW1]; rw [← HT.out j]; simp [go_sem, z1]
      have hk1 : KeepS W1 (wr.heap.size + 1) W1 := KeepS.refl (by rw [hW1]; simp)
      have z2 : w.heap.size < wr.heap.size + 1 := by omega
      have f1 : W1.frozen? ⟨w.heap.size, 0, none⟩ = false := by rw [hW1]; simpa [go_sem, z0] using hfs
      have hb1 : Below w.heap.size w W1 := by rw [hW1]; exact ext_alloc hb _
      have z3 : wr.heap.size + 1 ≤ W1.heap.size := by rw [hW1]; simp
      rw [← hW1]
      clear hW1
      go_region_held3 (fun w' => (∀ b o, b < wr.heap.size + 1 → w'.cell? ⟨b, o, none⟩ = W1.cell? ⟨b, o, none⟩) ∧ (∀ b o, b < wr.heap.size + 1 → w'.frozen? ⟨b, o, none⟩ = W1.frozen? ⟨b, o, none⟩) ∧ (∀ n, n < wr.heap.size + 1 → n < w'.heap.size) ∧ KeepS W1 (wr.heap.size + 1) w')
        (first
          | (refine KeepS.all ?_
             first
                 | exact hk1
                 | exact KeepS.drew hk1
                 | exact KeepS.alloc (KeepS.drew hk1) _
                 | exact KeepS.call (KeepS.drew hk1) (by assumption)
                 | exact KS.alloc (by assumption) _
                 | first | exact KS.call (by assumption) (by assumption) | exact KeepS.call hk1 (by assumption) | exact KeepS.call (hk1.alloc _) (by assumption)
                 | exact KS.set (by assumption) (by simp at *; omega) _
                 | exact KS.again (by assumption) (by simp at *; omega) _))
        (first
          | (go_at_call 18; refine (example_any _).mono ?_; rintro e w5 ⟨rfl, hb5⟩; (try replace hb5 := un_drew hb5); obtain ⟨hc5, hf5, hz5⟩ := ext3 hb5; have hq5 := hb5.size; (try have zz5 : W1.heap.size < w5.heap.size := (by simp at hq5; omega)))
          | (go_at_call 9; refine (step_ok _ _ _ _ _ _ _ ?_).mono ?_; (unfold okC; omega); rintro e w5 ⟨rfl, hb5⟩; (try replace hb5 := un_drew hb5); obtain ⟨hc5, hf5, hz5⟩ := ext3 hb5; have hq5 := hb5.size; (try have zz5 : W1.heap.size < w5.heap.size := (by simp at hq5; omega))))
      all_goals go_wp2
      all_goals
        refine ⟨?_, by simp [intOf]⟩
        exact aw_close (by assumption) (by omega) HT1 s1 f1 hb1 2 (by omega) rfl eS
    · have t0 : wr.cell? ⟨w.heap.size + 1, 6, none⟩ = some (.int .i64 4) := ht 6
      have t1 : wr.cell? ⟨w.heap.size + 1, 7, none⟩ = some (.int .i64 10) := ht 7
      have t2 : wr.cell? ⟨w.heap.size + 1, 8, none⟩ = some (.int .i64 24576) := ht 8
      clear ht
      have hs : wr.cell? ⟨w.heap.size, 0, none⟩ = some (.int .i64 16384) := hs
      have eS : stepS 4096 2048 (-10) 10 16384 4 = 24576 := by decide
      have eO : stepO 4096 2048 (-10) 10 16384 4 = 10 := by decide
      go_wp2_with fail
      obtain ⟨W1, hW1⟩ : ∃ W1 : World, W1 = wr.alloc (Obj.cells #[Value.int IntKind.i64 4, Value.int IntKind.i64 10, Value.int IntKind.i64 24576] 49) := ⟨_, rfl⟩
      have x0 : W1.cell? ⟨wr.heap.size, 0, none⟩ = some (.int .i64 4) := by rw [hW1]; simp [go_sem]
      have x1 : W1.cell? ⟨wr.heap.size, 1, none⟩ = some (.int .i64 10) := by rw [hW1]; simp [go_sem]
      have x2 : W1.cell? ⟨wr.heap.size, 2, none⟩ = some (.int .i64 24576) := by rw [hW1]; simp [go_sem]
      have s1 : W1.cell? ⟨w.heap.size, 0, none⟩ = some (.int .i64 16384) := by rw [hW1]; simpa [go_sem, z0] using hs
      have HT1 : Hid (∀ j, W1.cell? ⟨w.heap.size + 1, j, none⟩ = awT[j]?) := fun j => by rw [hW1]; rw [← HT.out j]; simp [go_sem, z1]
      have hk1 : KeepS W1 (wr.heap.size + 1) W1 := KeepS.refl (by rw [hW1]; simp)
      have z2 : w.heap.size < wr.heap.size + 1 := by omega
      have f1 : W1.frozen? ⟨w.heap.size, 0, none⟩ = false := by rw [hW1]; simpa [go_sem, z0] using hfs
      have hb1 : Below w.heap.size w W1 := by rw [hW1]; exact ext_alloc hb _
      have z3 : wr.heap.size + 1 ≤ W1.heap.size := by rw [hW1]; simp
      rw [← hW1]
      clear hW1
      go_region_held3 (fun w' => (∀ b o, b < wr.heap.size + 1 → w'.cell? ⟨b, o, none⟩ = W1.cell? ⟨b, o, none⟩) ∧ (∀ b o, b < wr.heap.size + 1 → w'.frozen? ⟨b, o, none⟩ = W1.frozen? ⟨b, o, none⟩) ∧ (∀ n, n < wr.heap.size + 1 → n < w'.heap.size) ∧ KeepS W1 (wr.heap.size + 1) w')
        (first
          | (refine KeepS.all ?_
             first
                 | exact hk1
                 | exact KeepS.drew hk1
                 | exact KeepS.alloc (KeepS.drew hk1) _
                 | exact KeepS.call (KeepS.drew hk1) (by assumption)
                 | exact KS.alloc (by assumption) _
                 | first | exact KS.call (by assumption) (by assumption) | exact KeepS.call hk1 (by assumption) | exact KeepS.call (hk1.alloc _) (by assumption)
                 | exact KS.set (by assumption) (by simp at *; omega) _
                 | exact KS.again (by assumption) (by simp at *; omega) _))
        (first
          | (go_at_call 18; refine (example_any _).mono ?_; rintro e w5 ⟨rfl, hb5⟩; (try replace hb5 := un_drew hb5); obtain ⟨hc5, hf5, hz5⟩ := ext3 hb5; have hq5 := hb5.size; (try have zz5 : W1.heap.size < w5.heap.size := (by simp at hq5; omega)))
          | (go_at_call 9; refine (step_ok _ _ _ _ _ _ _ ?_).mono ?_; (unfold okC; omega); rintro e w5 ⟨rfl, hb5⟩; (try replace hb5 := un_drew hb5); obtain ⟨hc5, hf5, hz5⟩ := ext3 hb5; have hq5 := hb5.size; (try have zz5 : W1.heap.size < w5.heap.size := (by simp at hq5; omega))))
      all_goals go_wp2
      all_goals
        refine ⟨?_, by simp [intOf]⟩
        exact aw_close (by assumption) (by omega) HT1 s1 f1 hb1 3 (by omega) rfl eS
    · have t0 : wr.cell? ⟨w.heap.size + 1, 9, none⟩ = some (.int .i64 4) := ht 9
      have t1 : wr.cell? ⟨w.heap.size + 1, 10, none⟩ = some (.int .i64 10) := ht 10
      have t2 : wr.cell? ⟨w.heap.size + 1, 11, none⟩ = some (.int .i64 24576) := ht 11
      clear ht
      have hs : wr.cell? ⟨w.heap.size, 0, none⟩ = some (.int .i64 24576) := hs
      have eS : stepS 4096 2048 (-10) 10 24576 4 = 24576 := by decide
      have eO : stepO 4096 2048 (-10) 10 24576 4 = 10 := by decide
      go_wp2_with fail
      obtain ⟨W1, hW1⟩ : ∃ W1 : World, W1 = wr.alloc (Obj.cells #[Value.int IntKind.i64 4, Value.int IntKind.i64 10, Value.int IntKind.i64 24576] 49) := ⟨_, rfl⟩
      have x0 : W1.cell? ⟨wr.heap.size, 0, none⟩ = some (.int .i64 4) := by rw [hW1]; simp [go_sem]
      have x1 : W1.cell? ⟨wr.heap.size, 1, none⟩ = some (.int .i64 10) := by rw [hW1]; simp [go_sem]
      have x2 : W1.cell? ⟨wr.heap.size, 2, none⟩ = some (.int .i64 24576) := by rw [hW1]; simp [go_sem]
      have s1 : W1.cell? ⟨w.heap.size, 0, none⟩ = some (.int .i64 24576) := by rw [hW1]; simpa [go_sem, z0] using hs
      have HT1 : Hid (∀ j, W1.cell? ⟨w.heap.size + 1, j, none⟩ = awT[j]?) := fun j => by rw [hW1]; rw [← HT.out j]; simp [go_sem, z1]
      have hk1 : KeepS W1 (wr.heap.size + 1) W1 := KeepS.refl (by rw [hW1]; simp)
      have z2 : w.heap.size < wr.heap.size + 1 := by omega
      have f1 : W1.frozen? ⟨w.heap.size, 0, none⟩ = false := by rw [hW1]; simpa [go_sem, z0] using hfs
      have hb1 : Below w.heap.size w W1 := by rw [hW1]; exact ext_alloc hb _
      have z3 : wr.heap.size + 1 ≤ W1.heap.size := by rw [hW1]; simp
      rw [← hW1]
      clear hW1
      go_region_held3 (fun w' => (∀ b o, b < wr.heap.size + 1 → w'.cell? ⟨b, o, none⟩ = W1.cell? ⟨b, o, none⟩) ∧ (∀ b o, b < wr.heap.size + 1 → w'.frozen? ⟨b, o, none⟩ = W1.frozen? ⟨b, o, none⟩) ∧ (∀ n, n < wr.heap.size + 1 → n < w'.heap.size) ∧ KeepS W1 (wr.heap.size + 1) w')
        (first
          | (refine KeepS.all ?_
             first
                 | exact hk1
                 | exact KeepS.drew hk1
                 | exact KeepS.alloc (KeepS.drew hk1) _
                 | exact KeepS.call (KeepS.drew hk1) (by assumption)
                 | exact KS.alloc (by assumption) _
                 | first | exact KS.call (by assumption) (by assumption) | exact KeepS.call hk1 (by assumption) | exact KeepS.call (hk1.alloc _) (by assumption)
                 | exact KS.set (by assumption) (by simp at *; omega) _
                 | exact KS.again (by assumption) (by simp at *; omega) _))
        (first
          | (go_at_call 18; refine (example_any _).mono ?_; rintro e w5 ⟨rfl, hb5⟩; (try replace hb5 := un_drew hb5); obtain ⟨hc5, hf5, hz5⟩ := ext3 hb5; have hq5 := hb5.size; (try have zz5 : W1.heap.size < w5.heap.size := (by simp at hq5; omega)))
          | (go_at_call 9; refine (step_ok _ _ _ _ _ _ _ ?_).mono ?_; (unfold okC; omega); rintro e w5 ⟨rfl, hb5⟩; (try replace hb5 := un_drew hb5); obtain ⟨hc5, hf5, hz5⟩ := ext3 hb5; have hq5 := hb5.size; (try have zz5 : W1.heap.size < w5.heap.size := (by simp at hq5; omega))))
      all_goals go_wp2
      all_goals
        refine ⟨?_, by simp [intOf]⟩
        exact aw_close (by assumption) (by omega) HT1 s1 f1 hb1 4 (by omega) rfl eS
    · have t0 : wr.cell? ⟨w.heap.size + 1, 12, none⟩ = some (.int .i64 (-1)) := ht 12
      have t1 : wr.cell? ⟨w.heap.size + 1, 13, none⟩ = some (.int .i64 4) := ht 13
      have t2 : wr.cell? ⟨w.heap.size + 1, 14, none⟩ = some (.int .i64 22528) := ht 14
      clear ht
      have hs : wr.cell? ⟨w.heap.size, 0, none⟩ = some (.int .i64 24576) := hs
      have eS : stepS 4096 2048 (-10) 10 24576 (-1) = 22528 := by decide
      have eO : stepO 4096 2048 (-10) 10 24576 (-1) = 4 := by decide
      go_wp2_with fail
      obtain ⟨W1, hW1⟩ : ∃ W1 : World, W1 = wr.alloc (Obj.cells #[Value.int IntKind.i64 (-1), Value.int IntKind.i64 4, Value.int IntKind.i64 22528] 49) := ⟨_, rfl⟩
      have x0 : W1.cell? ⟨wr.heap.size, 0, none⟩ = some (.int .i64 (-1)) := by rw [hW1]; simp [go_sem]
      have x1 : W1.cell? ⟨wr.heap.size, 1, none⟩ = some (.int .i64 4) := by rw [hW1]; simp [go_sem]
      have x2 : W1.cell? ⟨wr.heap.size, 2, none⟩ = some (.int .i64 22528) := by rw [hW1]; simp [go_sem]
      have s1 : W1.cell? ⟨w.heap.size, 0, none⟩ = some (.int .i64 24576) := by rw [hW1]; simpa [go_sem, z0] using hs
      have HT1 : Hid (∀ j, W1.cell? ⟨w.heap.size + 1, j, none⟩ = awT[j]?) := fun j => by rw [hW1]; rw [← HT.out j]; simp [go_sem, z1]
      have hk1 : KeepS W1 (wr.heap.size + 1) W1 := KeepS.refl (by rw [hW1]; simp)
      have z2 : w.heap.size < wr.heap.size + 1 := by omega
      have f1 : W1.frozen? ⟨w.heap.size, 0, none⟩ = false := by rw [hW1]; simpa [go_sem, z0] using hfs
      have hb1 : Below w.heap.size w W1 := by rw [hW1]; exact ext_alloc hb _
      have z3 : wr.heap.size + 1 ≤ W1.heap.size := by rw [hW1]; simp
      rw [← hW1]
      clear hW1
      go_region_held3 (fun w' => (∀ b o, b < wr.heap.size + 1 → w'.cell? ⟨b, o, none⟩ = W1.cell? ⟨b, o, none⟩) ∧ (∀ b o, b < wr.heap.size + 1 → w'.frozen? ⟨b, o, none⟩ = W1.frozen? ⟨b, o, none⟩) ∧ (∀ n, n < wr.heap.size + 1 → n < w'.heap.size) ∧ KeepS W1 (wr.heap.size + 1) w')
        (first
          | (refine KeepS.all ?_
             first
                 | exact hk1
                 | exact KeepS.drew hk1
                 | exact KeepS.alloc (KeepS.drew hk1) _
                 | exact KeepS.call (KeepS.drew hk1) (by assumption)
                 | exact KS.alloc (by assumption) _
                 | first | exact KS.call (by assumption) (by assumption) | exact KeepS.call hk1 (by assumption) | exact KeepS.call (hk1.alloc _) (by assumption)
                 | exact KS.set (by assumption) (by simp at *; omega) _
                 | exact KS.again (by assumption) (by simp at *; omega) _))
        (first
          | (go_at_call 18; refine (example_any _).mono ?_; rintro e w5 ⟨rfl, hb5⟩; (try replace hb5 := un_drew hb5); obtain ⟨hc5, hf5, hz5⟩ := ext3 hb5; have hq5 := hb5.size; (try have zz5 : W1.heap.size < w5.heap.size := (by simp at hq5; omega)))
          | (go_at_call 9; refine (step_ok _ _ _ _ _ _ _ ?_).mono ?_; (unfold okC; omega); rintro e w5 ⟨rfl, hb5⟩; (try replace hb5 := un_drew hb5); obtain ⟨hc5, hf5, hz5⟩ := ext3 hb5; have hq5 := hb5.size; (try have zz5 : W1.heap.size < w5.heap.size := (by simp at hq5; omega))))
      all_goals go_wp2
      all_goals
        refine ⟨?_, by simp [intOf]⟩
        exact aw_close (by assumption) (by omega) HT1 s1 f1 hb1 5 (by omega) rfl eS
    · go_wp2
      go_ret
      exact ⟨rfl, hb⟩
end Go.Proofs.Ythcnepmimoldhaa
