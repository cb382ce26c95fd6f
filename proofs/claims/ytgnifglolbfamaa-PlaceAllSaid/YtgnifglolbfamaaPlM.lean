/- The law's own words: heavy. -/
import Derived.Test.YtgnifglolbfamaaPlL
set_option linter.unusedVariables false
set_option linter.unusedSimpArgs false
namespace Go.Proofs.Ytgnifglolbfamaa
open Go.RowKit Go.Proofs.YtgnifglolbfamaaW.PrintWords

set_option maxHeartbeats 2000000 in
set_option maxRecDepth 100000 in
theorem heavy_any (l : List Ex) (A : Option Addr) (c : Nat) (room : Int) (w : World) (h0 : 0 ≤ room) (h1 : room ≤ 1000000) (hC : kEx.C w A l.length l) :
    Calls Try.prog 10 #[.slice A l.length c, .int .i64 room] w fun e w' => e = .returned (.bool (decide (room < exNL l))) ∧ Below w.heap.size w w' := by
  obtain ⟨res, hres⟩ : ∃ res, res = decide (room < exNL l) := ⟨_, rfl⟩
  rw [← hres]
  have HRES := Lib.hid hres
  have HC := Lib.hid hC
  have hmx := hC.2.1
  clear hC hres
  go_enter Try.func10, Try.ntmps10
  go_wp2_with fail
  go_loopw [1, 5] (fun t1 t5 wr => ∃ (k : Nat) (rm : Int), k ≤ l.length ∧ t5 = .int .i64 k ∧ t1 = .int .i64 rm ∧ -1 ≤ rm ∧ rm ≤ 1000000 ∧ Below w.heap.size w wr ∧ Hid ((0 ≤ rm → rm = room - exNL (l.take k)) ∧ (rm < 0 → room < exNL (l.take k)))) (fun _ t5 _ => l.length - (intOf t5).toNat)
  case atStart => exact ⟨0, room, by omega, rfl, rfl, by omega, by omega, Below.refl _ _, Lib.hid (by simp [exNL]; try omega)⟩
  case round =>
    obtain ⟨k, rm, hk, rfl, rfl, hr0, hr1, hB, hO⟩ := hrel
    by_cases hlt : k < l.length
    · have i1 : (0 : Int) ≤ (k : Int) := by omega
      have i2 : (k : Int) < l.length := by omega
      by_cases hrm : 0 ≤ rm
      · have d1 : decide (rm ≥ 0) = true := by simpa using hrm
        have hat := atEx (Kd.C_below HC.out hB) k i1 i2
        simp only [Int.toNat_natCast] at hat
        obtain ⟨ad, B9, b9, rfl, e0, e1, e2, e3, e4, e5, e6, e7, e8, e9, hl9, hi9⟩ := hat
        have hR := rdEx_get l k hlt
        have HS := Lib.hid (exNL_take_succ l k hlt)
        rw [← hR] at HS
        clear hR
        generalize rdEx l k = y at *
        have hcall := leftOf_any (exN y) y B9 b9 rm wr (Nat.le_refl _) hrm hr1 hi9
        have HCALL := Lib.hid hcall
        unfold exV at HCALL
        clear hcall hi9
        go_wp2_with fail
        refine HCALL.out.mono ?_
        rintro e W3 ⟨r', rfl, hL, hb3⟩
        obtain ⟨a1, a2, a3⟩ := hL.out
        obtain ⟨o1, o2⟩ := hO.out
        have h1 := o1 hrm
        have hbd : r' ≤ 1000000 := by
          rcases Int.lt_or_le r' 0 with h | h
          · omega
          · have := a1 h; omega
        have HN2 := Lib.hid (show (0 ≤ r' → r' = room - exNL (l.take (k + 1))) ∧ (r' < 0 → room < exNL (l.take (k + 1))) by
          rw [HS.out]
          exact ⟨fun h => by have := a1 h; omega, fun h => by have := a2 h; omega⟩)
        clear a1 a2 o1 o2 h1
        go_wp2_with fail
        go_roundw
        case rel => exact ⟨k + 1, r', by omega, by go_num, rfl, a3, hbd, below_step hB hb3, HN2⟩
        case measure => simp [intOf]; omega
      · have d1 : decide (rm ≥ 0) = false := by simpa using hrm
        have d2 : decide (rm < 0) = true := by simp; omega
        have ht := exNL_take l k
        have h2 := hO.out.2 (by omega)
        have HE := Lib.hid (show res = true by rw [HRES.out]; simp; omega)
        go_wp2_with fail
        go_ret
        exact ⟨by rw [HE.out]; rfl, hB⟩
    · have hO2 := hO.out
      rw [List.take_of_length_le (by omega)] at hO2
      rcases Int.lt_or_le rm 0 with h | h
      · have d2 : decide (rm < 0) = true := by simpa using h
        have h2 := hO2.2 h
        have HE := Lib.hid (show res = true by rw [HRES.out]; simp; omega)
        go_wp2_with fail
        go_ret
        exact ⟨by rw [HE.out]; rfl, hB⟩
      · have d2 : decide (rm < 0) = false := by simp; omega
        have h2 := hO2.1 h
        have HE := Lib.hid (show res = false by rw [HRES.out]; simp; omega)
        clear h2 hO2 hO
        go_wp2_with fail
        go_ret
        exact ⟨by rw [HE.out]; rfl, hB⟩
end Go.Proofs.Ytgnifglolbfamaa
