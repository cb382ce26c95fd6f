/- The walk of place.again. -/
import Derived.Test.YtgnifglolbfamaaPlB
set_option linter.unusedVariables false
set_option linter.unusedSimpArgs false
namespace Go.Proofs.Ytgnifglolbfamaa
open Go.RowKit Go.Proofs.YtgnifglolbfamaaW.PrintWords

/-- A reference that looks back. -/
def backAt (r : Rf) : Bool := decide (r.f1 = 3) || decide (r.f1 = 7)
def againOf (x : Ex) : Bool := !(refsOf x).any backAt

theorem atRfN {w : World} {A : Option Addr} {n : Nat} {xs : List Rf} (h : Kd.C kRf w A n xs) (k : Nat) (hk : k < n) (hk' : k < xs.length) : ∃ ad, A = some ad ∧ w.cell? (ad.add (k * 4)) = some (.string xs[k].f0) ∧ w.cell? ⟨(ad.add (k * 4)).block, (ad.add (k * 4)).off + 1, none⟩ = some (.int .i64 xs[k].f1) ∧ w.cell? ⟨(ad.add (k * 4)).block, (ad.add (k * 4)).off + 2, none⟩ = some (.string xs[k].f2) ∧ w.cell? ⟨(ad.add (k * 4)).block, (ad.add (k * 4)).off + 3, none⟩ = some (.int .i64 xs[k].f3) := by
  have h1 := atRf h (k : Int) (by omega) (by omega)
  have h2 : rdRf xs (k : Int) = xs[k] := by simp [rdRf, List.getD_eq_getElem?_getD, List.getElem?_eq_getElem hk']
  simp only [Int.toNat_natCast] at h1
  rw [h2] at h1
  exact h1

theorem any_take_succ {α : Type} (p : α → Bool) (L : List α) (k : Nat) (h : k < L.length) : (L.take (k + 1)).any p = ((L.take k).any p || p L[k]) := by
  rw [List.take_succ_eq_append_getElem h, List.any_append]
  simp

set_option maxHeartbeats 2000000 in
set_option maxRecDepth 100000 in
theorem again_any (x : Ex) (A : Option Addr) (c : Nat) (w : World) (hN : exN x ≤ 100000000000) (hc : x.f6.length ≤ c) (hC : kEx.C w A x.f6.length x.f6) :
    Calls Try.prog 44 #[exV x (.slice A x.f6.length c)] w fun e w' => e = .returned (.bool (againOf x)) ∧ Below w.heap.size w w' := by
  have hp := refs_any x A c (w.alloc (.cells #[.int .i64 x.f0, .int .i64 x.f1, .int .i64 x.f2.f0, .int .i64 x.f2.f1, .string x.f2.f2, .bool x.f2.f3, .string x.f3, .int .i64 x.f4, .string x.f5, .slice A x.f6.length c] 31)) hN hc (Kd.C_below hC (below_new _ _))
  unfold againOf
  generalize refsOf x = L at *
  generalize hb : (!L.any backAt) = b
  have HBB := Lib.hid hb
  clear hN hc hC hb
  unfold exV at hp ⊢
  go_enter Try.func44, Try.ntmps44
  go_wp2_with fail
  refine hp.mono ?_
  rintro e W1 ⟨hb1, v1, rfl, hr1⟩
  obtain ⟨A1, c1, rfl, hc1, hC1⟩ := Kd.R_reads hr1
  have HC := Lib.hid hC1
  have hB1 := below_step (below_new w _) hb1
  have hmx := hC1.2.1
  clear hr1 hC1 hb1 hp
  go_wp2_with fail
  go_loopw [8] (fun t8 wr => ∃ k : Nat, k ≤ L.length ∧ t8 = .int .i64 k ∧ Below W1.heap.size W1 wr ∧ Hid ((L.take k).any backAt = false)) (fun t8 _ => L.length - (intOf t8).toNat)
  case atStart => exact ⟨0, by omega, rfl, Below.refl _ _, Lib.hid rfl⟩
  case round =>
    obtain ⟨k, hk, rfl, hB, hO⟩ := hrel
    have hsz := hB.size
    by_cases hlt : k < L.length
    · obtain ⟨ad, rfl, e0, e1, e2, e3⟩ := atRfN HC.out k hlt hlt
      have i1 : (0 : Int) ≤ (k : Int) := by omega
      have i2 : (k : Int) < L.length := by omega
      have e0 := pw_cell_below hB e0
      have e1 := pw_cell_below hB e1
      have e2 := pw_cell_below hB e2
      have e3 := pw_cell_below hB e3
      have HT := Lib.hid (any_take_succ backAt L k hlt)
      have HL := Lib.hid (show (L.any backAt = true) ∨ backAt L[k] = false by
        by_cases h : backAt L[k] = true
        · exact Or.inl (List.any_eq_true.2 ⟨_, List.getElem_mem hlt, h⟩)
        · exact Or.inr (by simpa using h))
      generalize L[k] = y at *
      have hB2 := below_step hB1 hB
      have hcase : (y.f1 == 3) = true ∨ ((y.f1 == 3) = false ∧ (y.f1 == 7) = true) ∨ ((y.f1 == 3) = false ∧ (y.f1 == 7) = false) := by
        cases (y.f1 == 3) <;> cases (y.f1 == 7) <;> simp
      rcases hcase with d1 | ⟨d1, d2⟩ | ⟨d1, d2⟩
      iterate 2
        · have HF := Lib.hid (show backAt y = true by simp [backAt]; simp at *; omega)
          go_wp2_with fail
          go_ret
          refine ⟨?_, below_step hB2 (below_new _ _)⟩
          rcases HL.out with h | h
          · rw [← HBB.out, h]; rfl
          · rw [HF.out] at h; cases h
      · have HF := Lib.hid (show backAt y = false by simp [backAt]; simp at *; omega)
        go_wp2_with fail
        go_roundw
        case rel => exact ⟨k + 1, by omega, by go_num, below_step hB (below_new _ _), Lib.hid (by rw [HT.out, hO.out, HF.out]; rfl)⟩
        case measure => simp [intOf]; omega
    · go_wp2_with fail
      go_ret
      have h := hO.out
      rw [List.take_of_length_le (by omega)] at h
      refine ⟨?_, below_step hB1 hB⟩
      rw [← HBB.out, h]; rfl
end Go.Proofs.Ytgnifglolbfamaa
