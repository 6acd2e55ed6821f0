/- Uniform scales. Conditions: lists not too long; the table of math/bits stands in block 0. Uniform scales, as the document has them. Conditions: lists not too long. -/
import Derived.Test.YtejnnljjmafjaaaDoorScC
import Derived.Test.YtejnnljjmafjaaaDoorOwX
import Derived.Test.YtejnnljjmafjaaaDoorScD
namespace Go.Proofs.YtejnnljjmafjaaaDoor
set_option linter.unusedVariables false
set_option linter.unusedSimpArgs false
set_option linter.unusedSectionVars false
open Go.RowKit

def leastI (l : List Int) : Int := l.foldl min 30
def unO (g : Int) (R : List Iv) : List Int := if chErr g R = 0 then List.replicate R.length (leastI (R.map chS)) else []
def un1 (w1 : World) (xs : List Int) (l i : Value) (wr : World) : Prop := ∃ k : Nat, k ≤ xs.length ∧ i = .int .i64 (k : Int) ∧ l = .int .i64 (leastI (xs.take k)) ∧ w1 = wr
def un2 (w : World) (A : Option Addr) (xs : List Int) (c : Nat) (L : Int) (i : Value) (wr : World) : Prop :=
  ∃ k : Nat, k ≤ xs.length ∧ i = .int .i64 (k : Int) ∧ OwnI wr (w.heap.size + 1) (.slice A xs.length c) (mix (List.replicate xs.length L) xs k) ∧ Below w.heap.size w wr
set_option maxRecDepth 100000 in
set_option maxHeartbeats 4000000 in
theorem puniform_any (d : Dg) (A : Option Addr) (R : List Iv) (c m : Nat) (w : World) (hm : m ≤ w.heap.size) (hd : DgAt w m d) (hR : IvsAt w m A R) (hn : R.length ≤ 1000) (ht : TabAt w) :
    Calls Tryd.prog 18 #[d.val, .slice A R.length c] w (RetOE (unO (gvE d R) R) (chErr (gvE d R) R) w) := by
  have hl2 := hd.l2
  have HD := Lib.hid hd
  have HR := Lib.hid hR
  have HT := Lib.hid ht
  clear hd hR ht
  obtain ⟨A1, ps, c1, A2, bs, c2, A3, os, c3⟩ := d
  dsimp only at hl2
  simp only [Dg.val]
  have R0 := Lib.hid (RowD.new_ w [.slice A1 ps.length c1, .slice A2 bs.length c2, .slice A3 os.length c3] 26)
  have B0 := Lib.hid (al_ w (.cells #[.slice A1 ps.length c1, .slice A2 bs.length c2, .slice A3 os.length c3] 26))
  obtain ⟨E, hE⟩ : ∃ E, gvE ⟨A1, ps, c1, A2, bs, c2, A3, os, c3⟩ R = E := ⟨_, rfl⟩
  have HE := Lib.hid hE
  rw [show (gvE ⟨A1, ps, c1, A2, bs, c2, A3, os, c3⟩ R) = E from hE]
  clear hE
  go_enter Tryd.func18, Tryd.ntmps18
  go_wp2_with fail
  go_at_call 12
  refine (pchoose_any ⟨A1, ps, c1, A2, bs, c2, A3, os, c3⟩ A R c m _ (by simp; omega) (HD.out.below B0.out hm) (HR.out.below B0.out hm) (by omega) (HT.out.below B0.out HT.out.1)).mono ?_
  rintro e w1 ⟨v, rfl, hown, hb1⟩
  dsimp only at hown ⊢
  rw [HE.out] at hown ⊢
  have B1 := Lib.hid (B0.out.trans (hb1.mono B0.out.size))
  replace hown := hown.base_ (show w.heap.size + 1 ≤ _ by simp)
  clear hb1 R0 B0
  by_cases he : chErr E R = 0
  case neg =>
    have HV := Lib.hid (show unO E R = [] from if_neg he)
    obtain ⟨F, hF⟩ : ∃ F, F = chErr E R := ⟨_, rfl⟩
    rw [← hF] at he ⊢
    have HFE := Lib.hid hF
    clear hF hown
    have HEN := Lib.hid (errV_n he)
    clear he
    rw [HEN.out]
    go_wp2_with fail
    refine bodyPost_ret (v := .tuple #[.slice none 0 0, .iface 44 (.int .i64 F)]) (by simp [results, Tryd.results18, go_sem]) rfl ⟨_, by rw [← HFE.out, HEN.out], by rw [HV.out]; exact OwnI.nil_ _ _, B1.out⟩
  have HC0 := Lib.hid he
  have HV := Lib.hid (show unO E R = List.replicate R.length (leastI (R.map chS)) from if_pos he)
  have hxs : chO E R = R.map chS := if_pos he
  rw [hxs] at hown
  rw [he, errV_0]
  obtain ⟨xs, hx⟩ : ∃ xs, xs = R.map chS := ⟨_, rfl⟩
  have hxl : xs.length = R.length := by rw [hx]; simp
  rw [← hx] at hown HV
  rw [← hxl] at HV
  have HO := Lib.hid hown
  have hle : xs.length ≤ 1000 := by omega
  clear hx hxl hxs he hown
  obtain ⟨A', c', hv, _, _⟩ := HO.out.view
  subst hv
  go_wp2_with fail
  go_loopw [8, 23] (fun l i wr => un1 w1 xs l i wr) (fun _ i _ => xs.length - (intOf i).toNat)
  case atStart => exact ⟨0, Nat.zero_le _, rfl, rfl, rfl⟩
  case round =>
    obtain ⟨k, hk, rfl, rfl, rfl⟩ := hrel
    by_cases hlt : k < xs.length
    · obtain ⟨b, off, z, rfl, _, hbs, hz, gz⟩ := HO.out.cells.int_ hlt
      have HZ := Lib.hid hz
      have hki : (k : Int) < (xs.length : Int) := by omega
      clear hz
      go_wp2_with fail
      exact ⟨⟨k + 1, by omega, by go_num, by rw [List.take_add_one, HZ.out]; simp [leastI], rfl⟩, by simp [intOf]; omega⟩
    · have ht : xs.take k = xs := List.take_of_length_le (by omega)
      rw [ht]
      have hle2 : ¬ (k : Int) < (xs.length : Int) := by omega
      clear ht
      obtain ⟨L, hL⟩ : ∃ L, L = leastI xs := ⟨_, rfl⟩
      rw [← hL] at HV
      rw [← hL]
      clear hL
      go_wp2_with fail
      go_loopw [33] (fun i w2 => un2 w A' xs c' L i w2) (fun i _ => xs.length - (intOf i).toNat)
      case atStart => exact ⟨0, Nat.zero_le _, rfl, by rw [mix_zero]; exact HO.out, B1.out⟩
      case round =>
        clear HO B1
        obtain ⟨k, hk, rfl, hown, hb⟩ := hrel
        rename World => w2
        have hml : (mix (List.replicate xs.length L) xs k).length = xs.length := mix_len (by simp) hk
        by_cases hlt : k < xs.length
        · obtain ⟨g, rfl, hg1, hg2⟩ := hown.some_ (by rw [hml]; omega)
          have hki : (k : Int) < (xs.length : Int) := by omega
          have gz : w2.cell? ⟨g, k, none⟩ = some (.int .i64 (xs[k])) := hown.cellA (mix_get (by simp) (List.getElem?_eq_getElem hlt))
          have gf := hown.freeA hml.symm k
          have HO2 := Lib.hid (hown.put hml.symm k L)
          clear hown hml
          go_wp2_with fail
          refine ⟨⟨k + 1, by omega, by go_num, ?_, hb.setCell (by show w.heap.size ≤ g; omega) _⟩, by simp [intOf]; omega⟩
          have := HO2.out
          rwa [mix_set (by simp) (show (List.replicate xs.length L)[k]? = some L by simp [hlt])] at this
        · have hall : mix (List.replicate xs.length L) xs k = List.replicate xs.length L := mix_all (by simp) (by omega)
          rw [hall] at hown
          have HO2 := Lib.hid hown
          clear hown hall hml
          go_wp2_with fail
          refine bodyPost_ret (v := .tuple #[.slice A' xs.length c', .nilIface]) (by simp [results, Tryd.results18, go_sem]) rfl ⟨_, by rw [HC0.out]; rfl, ?_, hb⟩
          rw [HV.out]
          exact HO2.out.base_ (by omega)
end Go.Proofs.YtejnnljjmafjaaaDoor
namespace Go.Proofs.YtejnnljjmafjaaaDoor
set_option linter.unusedVariables false
set_option linter.unusedSimpArgs false
set_option linter.unusedSectionVars false
open Go.RowKit

set_option maxRecDepth 100000 in
set_option maxHeartbeats 4000000 in
theorem runiform_any (d : Dg) (A : Option Addr) (R : List Iv) (c m : Nat) (w : World) (hm : m ≤ w.heap.size) (hd : DgAt w m d) (hR : IvsAt w m A R) (hn : R.length ≤ 1000) :
    Calls Tryd.prog 21 #[d.val, .slice A R.length c] w (RetOI (unO (gvErr d.bs.length R) R) (chErr (gvErr d.bs.length R) R) w) := by
  have hl2 := hd.l2
  have HD := Lib.hid hd
  have HR := Lib.hid hR
  clear hd hR
  obtain ⟨A1, ps, c1, A2, bs, c2, A3, os, c3⟩ := d
  dsimp only at hl2
  simp only [Dg.val]
  have R0 := Lib.hid (RowD.new_ w [.slice A1 ps.length c1, .slice A2 bs.length c2, .slice A3 os.length c3] 26)
  have B0 := Lib.hid (al_ w (.cells #[.slice A1 ps.length c1, .slice A2 bs.length c2, .slice A3 os.length c3] 26))
  obtain ⟨E, hE⟩ : ∃ E, gvErr bs.length R = E := ⟨_, rfl⟩
  have HE := Lib.hid hE
  rw [show (gvErr bs.length R) = E from hE]
  clear hE
  go_enter Tryd.func21, Tryd.ntmps21
  go_wp2_with fail
  go_at_call 20
  refine (rchoose_any ⟨A1, ps, c1, A2, bs, c2, A3, os, c3⟩ A R c m _ (by simp; omega) (HD.out.below B0.out hm) (HR.out.below B0.out hm) (by omega)).mono ?_
  rintro e w1 ⟨v, rfl, hown, hb1⟩
  dsimp only at hown ⊢
  rw [HE.out] at hown ⊢
  have B1 := Lib.hid (B0.out.trans (hb1.mono B0.out.size))
  replace hown := hown.base_ (show w.heap.size + 1 ≤ _ by simp)
  clear hb1 R0 B0
  by_cases he : chErr E R = 0
  case neg =>
    have HV := Lib.hid (show unO E R = [] from if_neg he)
    obtain ⟨F, hF⟩ : ∃ F, F = chErr E R := ⟨_, rfl⟩
    rw [← hF] at he ⊢
    have HFE := Lib.hid hF
    clear hF hown
    have hEb : (F != 0) = true := by simpa using he
    clear he
    go_wp2_with fail
    refine bodyPost_ret (v := .tuple #[.slice none 0 0, .int .i64 F]) (by simp [results, Tryd.results21, go_sem]) rfl ⟨_, by rw [← HFE.out], by rw [HV.out]; exact OwnI.nil_ _ _, B1.out⟩
  have HC0 := Lib.hid he
  have HV := Lib.hid (show unO E R = List.replicate R.length (leastI (R.map chS)) from if_pos he)
  have hxs : chO E R = R.map chS := if_pos he
  rw [hxs] at hown
  rw [he]
  obtain ⟨xs, hx⟩ : ∃ xs, xs = R.map chS := ⟨_, rfl⟩
  have hxl : xs.length = R.length := by rw [hx]; simp
  rw [← hx] at hown HV
  rw [← hxl] at HV
  have HO := Lib.hid hown
  have hle : xs.length ≤ 1000 := by omega
  clear hx hxl hxs he hown
  obtain ⟨A', c', hv, _, _⟩ := HO.out.view
  subst hv
  go_wp2_with fail
  go_loopw [8, 23] (fun l i wr => un1 w1 xs l i wr) (fun _ i _ => xs.length - (intOf i).toNat)
  case atStart => exact ⟨0, Nat.zero_le _, rfl, rfl, rfl⟩
  case round =>
    obtain ⟨k, hk, rfl, rfl, rfl⟩ := hrel
    by_cases hlt : k < xs.length
    · obtain ⟨b, off, z, rfl, _, hbs, hz, gz⟩ := HO.out.cells.int_ hlt
      have HZ := Lib.hid hz
      have hki : (k : Int) < (xs.length : Int) := by omega
      clear hz
      go_wp2_with fail
      exact ⟨⟨k + 1, by omega, by go_num, by rw [List.take_add_one, HZ.out]; simp [leastI], rfl⟩, by simp [intOf]; omega⟩
    · have ht : xs.take k = xs := List.take_of_length_le (by omega)
      rw [ht]
      have hle2 : ¬ (k : Int) < (xs.length : Int) := by omega
      clear ht
      obtain ⟨L, hL⟩ : ∃ L, L = leastI xs := ⟨_, rfl⟩
      rw [← hL] at HV
      rw [← hL]
      clear hL
      go_wp2_with fail
      go_loopw [33] (fun i w2 => un2 w A' xs c' L i w2) (fun i _ => xs.length - (intOf i).toNat)
      case atStart => exact ⟨0, Nat.zero_le _, rfl, by rw [mix_zero]; exact HO.out, B1.out⟩
      case round =>
        clear HO B1
        obtain ⟨k, hk, rfl, hown, hb⟩ := hrel
        rename World => w2
        have hml : (mix (List.replicate xs.length L) xs k).length = xs.length := mix_len (by simp) hk
        by_cases hlt : k < xs.length
        · obtain ⟨g, rfl, hg1, hg2⟩ := hown.some_ (by rw [hml]; omega)
          have hki : (k : Int) < (xs.length : Int) := by omega
          have gz : w2.cell? ⟨g, k, none⟩ = some (.int .i64 (xs[k])) := hown.cellA (mix_get (by simp) (List.getElem?_eq_getElem hlt))
          have gf := hown.freeA hml.symm k
          have HO2 := Lib.hid (hown.put hml.symm k L)
          clear hown hml
          go_wp2_with fail
          refine ⟨⟨k + 1, by omega, by go_num, ?_, hb.setCell (by show w.heap.size ≤ g; omega) _⟩, by simp [intOf]; omega⟩
          have := HO2.out
          rwa [mix_set (by simp) (show (List.replicate xs.length L)[k]? = some L by simp [hlt])] at this
        · have hall : mix (List.replicate xs.length L) xs k = List.replicate xs.length L := mix_all (by simp) (by omega)
          rw [hall] at hown
          have HO2 := Lib.hid hown
          clear hown hall hml
          go_wp2_with fail
          refine bodyPost_ret (v := .tuple #[.slice A' xs.length c', .int .i64 0]) (by simp [results, Tryd.results21, go_sem]) rfl ⟨_, by rw [HC0.out], ?_, hb⟩
          rw [HV.out]
          exact HO2.out.base_ (by omega)
end Go.Proofs.YtejnnljjmafjaaaDoor
