/- The law's own words: leftOf. -/
import Derived.Test.YtgnifglolbfamaaPlK
set_option linter.unusedVariables false
set_option linter.unusedSimpArgs false
namespace Go.Proofs.Ytgnifglolbfamaa
open Go.RowKit Go.Proofs.YtgnifglolbfamaaW.PrintWords

/-- What leftOf answers of n nodes at a room. -/
def LeftR (n : Nat) (room r : Int) : Prop := (0 ≤ r → r = room - n) ∧ (r < 0 → room < n) ∧ -1 ≤ r
theorem exNL_take_succ (l : List Ex) (k : Nat) (h : k < l.length) : exNL (l.take (k + 1)) = exNL (l.take k) + exN l[k] := by
  rw [List.take_succ_eq_append_getElem h, exNL_append]
  simp [exNL]

set_option maxHeartbeats 2000000 in
set_option maxRecDepth 100000 in
theorem leftOf_any : ∀ (m : Nat) (x : Ex) (A : Option Addr) (c : Nat) (room : Int) (w : World), exN x ≤ m → 0 ≤ room → room ≤ 1000000 → kEx.C w A x.f6.length x.f6 →
    Calls Try.prog 37 #[exV x (.slice A x.f6.length c), .int .i64 room] w fun e w' => ∃ r, e = .returned (.int .i64 r) ∧ Hid (LeftR (exN x) room r) ∧ Below w.heap.size w w' := by
  intro m
  induction m with
  | zero => intro x A c room w h; rw [exN_eq] at h; omega
  | succ m ih =>
    intro x A c room w hm h0 h1 hC
    have hn := exN_eq x
    rw [hn] at hm
    have HN := Lib.hid hn
    have HC := Lib.hid hC
    have hmx := hC.2.1
    clear hn hC
    unfold exV
    go_enter Try.func37, Try.ntmps37
    go_wp2_with fail
    have hB0 := below_new w (.cells #[.int .i64 x.f0, .int .i64 x.f1, .int .i64 x.f2.f0, .int .i64 x.f2.f1, .string x.f2.f2, .bool x.f2.f3, .string x.f3, .int .i64 x.f4, .string x.f5, .slice A x.f6.length c] 31)
    have hX := blk_new w (.cells #[.int .i64 x.f0, .int .i64 x.f1, .int .i64 x.f2.f0, .int .i64 x.f2.f1, .string x.f2.f2, .bool x.f2.f3, .string x.f3, .int .i64 x.f4, .string x.f5, .slice A x.f6.length c] 31)
    generalize w.alloc (.cells #[.int .i64 x.f0, .int .i64 x.f1, .int .i64 x.f2.f0, .int .i64 x.f2.f1, .string x.f2.f2, .bool x.f2.f3, .string x.f3, .int .i64 x.f4, .string x.f5, .slice A x.f6.length c] 31) = W1 at *
    go_loopw [1, 5] (fun t1 t5 wr => ∃ (k : Nat) (rm : Int), k ≤ x.f6.length ∧ t5 = .int .i64 k ∧ t1 = .int .i64 rm ∧ -1 ≤ rm ∧ rm ≤ 1000000 ∧ Below W1.heap.size W1 wr ∧ Hid ((0 ≤ rm → rm = room - 1 - exNL (x.f6.take k)) ∧ (rm < 0 → room - 1 < exNL (x.f6.take k)))) (fun _ t5 _ => x.f6.length - (intOf t5).toNat)
    case atStart => exact ⟨0, room - 1, by omega, rfl, rfl, by omega, by omega, Below.refl _ _, Lib.hid (by simp [exNL])⟩
    case round =>
      obtain ⟨k, rm, hk, rfl, rfl, hr0, hr1, hB, hO⟩ := hrel
      have q9 := (blk_cell (blk_below hX hB) 9).trans rfl
      by_cases hlt : k < x.f6.length
      · have i1 : (0 : Int) ≤ (k : Int) := by omega
        have i2 : (k : Int) < x.f6.length := by omega
        by_cases hrm : 0 ≤ rm
        · have d1 : decide (rm ≥ 0) = true := by simpa using hrm
          have hat := atEx (Kd.C_below HC.out (below_step hB0 hB)) k i1 i2
          simp only [Int.toNat_natCast] at hat
          obtain ⟨ad, B9, b9, rfl, e0, e1, e2, e3, e4, e5, e6, e7, e8, e9, hl9, hi9⟩ := hat
          have hR := rdEx_get x.f6 k hlt
          have HS := Lib.hid (exNL_take_succ x.f6 k hlt)
          have hym := exN_get x.f6 k hlt
          rw [← hR] at HS hym
          clear hR
          generalize rdEx x.f6 k = y at *
          have hcall := ih y B9 b9 rm wr (by omega) hrm hr1 hi9
          have HCALL := Lib.hid hcall
          have HI := Lib.hid ih
          unfold exV at HCALL
          clear hcall ih hi9
          go_wp2_with fail
          refine HCALL.out.mono ?_
          rintro e W3 ⟨r', rfl, hL, hb3⟩
          obtain ⟨a1, a2, a3⟩ := hL.out
          obtain ⟨o1, o2⟩ := hO.out
          have h1 := o1 hrm
          have hbd : r' ≤ 1000000 := by
            rcases Int.lt_or_le r' 0 with h | h
            · omega
            · have := a1 h; omega
          have HN2 := Lib.hid (show (0 ≤ r' → r' = room - 1 - exNL (x.f6.take (k + 1))) ∧ (r' < 0 → room - 1 < exNL (x.f6.take (k + 1))) by
            rw [HS.out]
            exact ⟨fun h => by have := a1 h; omega, fun h => by have := a2 h; omega⟩)
          clear a1 a2 o1 o2 h1
          go_wp2_with fail
          go_roundw
          case rel => exact ⟨k + 1, r', by omega, by go_num, rfl, a3, hbd, below_step hB hb3, HN2⟩
          case measure => simp [intOf]; omega
        · have d1 : decide (rm ≥ 0) = false := by simpa using hrm
          have ht := exNL_take x.f6 k
          have h2 := hO.out.2 (by omega)
          go_wp2_with fail
          go_ret
          exact ⟨rm, rfl, Lib.hid ⟨fun h => by omega, fun _ => by rw [HN.out]; omega, hr0⟩, below_step hB0 hB⟩
      · have hO2 := hO.out
        rw [List.take_of_length_le (by omega)] at hO2
        go_wp2_with fail
        go_ret
        exact ⟨rm, rfl, Lib.hid ⟨fun h => by rw [HN.out]; have := hO2.1 h; omega, fun h => by rw [HN.out]; have := hO2.2 h; omega, hr0⟩, below_step hB0 hB⟩
end Go.Proofs.Ytgnifglolbfamaa
