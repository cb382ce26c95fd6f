/- The law's own words: heavyQuery. -/
import Derived.Test.YtgnifglolbfamaaPlO
set_option linter.unusedVariables false
set_option linter.unusedSimpArgs false
namespace Go.Proofs.Ytgnifglolbfamaa
open Go.RowKit Go.Proofs.YtgnifglolbfamaaW.PrintWords

def itN : List It → Nat
  | [] => 0
  | x :: xs => exN x.f1 + itN xs
theorem itN_append : ∀ (a b : List It), itN (a ++ b) = itN a + itN b
  | [], b => by simp [itN]
  | x :: a, b => by simp only [List.cons_append, itN, itN_append a b]; omega
theorem itN_take_succ (l : List It) (k : Nat) (h : k < l.length) : itN (l.take (k + 1)) = itN (l.take k) + exN l[k].f1 := by
  rw [List.take_succ_eq_append_getElem h, itN_append]
  simp [itN]
theorem itN_take (l : List It) (k : Nat) : itN (l.take k) ≤ itN l := by
  conv => rhs; rw [← List.take_append_drop k l, itN_append]
  omega
theorem rdIt_get (l : List It) (k : Nat) (h : k < l.length) : rdIt l (k : Int) = l[k] := by
  simp [rdIt, List.getD_eq_getElem?_getD, List.getElem?_eq_getElem h]

set_option maxHeartbeats 4000000 in
set_option maxRecDepth 100000 in
theorem heavyQuery_any (v0 : Value) (q1 : ByteArray) (q2 : Int) (v3 : Value) (ws : List Ex) (AW : Option Addr) (cw : Nat) (q5 : Int) (q6 : ByteArray) (its : List It) (AI : Option Addr) (ci : Nat) (h0 : v0.oneCell' = true) (h3 : v3.oneCell' = true) (w : World)
    (hW : kEx.C w AW ws.length ws) (hI : kIt.C w AI its.length its) :
    Calls Try.prog 9 #[.agg #[v0, .string q1, .int .i64 q2, v3, .slice AW ws.length cw, .int .i64 q5, .string q6, .slice AI its.length ci]] w fun e w' => e = .returned (.bool (decide (16384 < itN its + exNL ws))) ∧ Below w.heap.size w w' := by
  obtain ⟨res, hres⟩ : ∃ res, res = decide (16384 < itN its + exNL ws) := ⟨_, rfl⟩
  rw [← hres]
  have HRES := Lib.hid hres
  have hQ := blk_new w (.cells #[v0, .string q1, .int .i64 q2, v3, .slice AW ws.length cw, .int .i64 q5, .string q6, .slice AI its.length ci] 27)
  have hb1 := below_new w (.cells #[v0, .string q1, .int .i64 q2, v3, .slice AW ws.length cw, .int .i64 q5, .string q6, .slice AI its.length ci] 27)
  have HW := Lib.hid (Kd.C_below hW hb1)
  have HI := Lib.hid (Kd.C_below hI hb1)
  have hmx := hI.2.1
  clear hW hI hres
  go_enter Try.func9, Try.ntmps9
  go_wp2_with fail
  generalize w.alloc (.cells #[v0, .string q1, .int .i64 q2, v3, .slice AW ws.length cw, .int .i64 q5, .string q6, .slice AI its.length ci] 27) = W1 at *
  go_loopw [3, 4] (fun t3 t4 wr => ∃ (k : Nat) (rm : Int), k ≤ its.length ∧ t4 = .int .i64 k ∧ t3 = .int .i64 rm ∧ -1 ≤ rm ∧ rm ≤ 1000000 ∧ Below W1.heap.size W1 wr ∧ Hid ((0 ≤ rm → rm = 16384 - itN (its.take k)) ∧ (rm < 0 → 16384 < itN (its.take k)))) (fun _ t4 _ => its.length - (intOf t4).toNat)
  case atStart => exact ⟨0, 16384, by omega, rfl, rfl, by omega, by omega, Below.refl _ _, Lib.hid (by simp [itN])⟩
  case round =>
    obtain ⟨k, rm, hk, rfl, rfl, hr0, hr1, hB, hO⟩ := hrel
    have hQ2 := blk_below hQ hB
    have z4 := (blk_cell hQ2 4).trans rfl
    have z7 := (blk_cell hQ2 7).trans rfl
    by_cases hlt : k < its.length
    · have i1 : (0 : Int) ≤ (k : Int) := by omega
      have i2 : (k : Int) < its.length := by omega
      by_cases hrm : 0 ≤ rm
      · have d1 : decide (rm ≥ 0) = true := by simpa using hrm
        have hat := atIt (Kd.C_below HI.out hB) k i1 i2
        simp only [Int.toNat_natCast] at hat
        obtain ⟨ad, B9, b9, rfl, e0, e1, e2, e3, e4, e5, e6, e7, e8, e9, e10, hl9, hi9⟩ := hat
        have hR := rdIt_get its k hlt
        have HS := Lib.hid (itN_take_succ its k hlt)
        rw [← hR] at HS
        clear hR
        generalize rdIt its k = y at *
        obtain ⟨y0, y⟩ := y
        have hcall := leftOf_any (exN y) y B9 b9 rm wr (Nat.le_refl _) hrm hr1 hi9
        have HCALL := Lib.hid hcall
        unfold exV at HCALL
        clear hcall hi9
        go_wp2_with fail
        refine HCALL.out.mono ?_
        rintro e W3 ⟨r', rfl, hL, hb3⟩
        obtain ⟨a1, a2, a3⟩ := hL.out
        obtain ⟨o1, o2⟩ := hO.out
        have h1 := o1 hrm
        have hbd : r' ≤ 1000000 := by
          rcases Int.lt_or_le r' 0 with h | h
          · omega
          · have := a1 h; omega
        have HN2 := Lib.hid (show (0 ≤ r' → r' = 16384 - itN (its.take (k + 1))) ∧ (r' < 0 → 16384 < itN (its.take (k + 1))) by
          rw [HS.out]
          exact ⟨fun h => by have := a1 h; simp; omega, fun h => by have := a2 h; simp; omega⟩)
        clear a1 a2 o1 o2 h1
        go_wp2_with fail
        go_roundw
        case rel => exact ⟨k + 1, r', by omega, by go_num, rfl, a3, hbd, below_step hB hb3, HN2⟩
        case measure => simp [intOf]; omega
      · have d1 : decide (rm ≥ 0) = false := by simpa using hrm
        have d2 : decide (rm < 0) = true := by simp; omega
        have ht := itN_take its k
        have h2 := hO.out.2 (by omega)
        have HE := Lib.hid (show res = true by rw [HRES.out]; simp; omega)
        go_wp2_with fail
        go_ret
        exact ⟨by rw [HE.out]; rfl, below_step hb1 hB⟩
    · have hO2 := hO.out
      rw [List.take_of_length_le (by omega)] at hO2
      rcases Int.lt_or_le rm 0 with h | h
      · have d2 : decide (rm < 0) = true := by simpa using h
        have h2 := hO2.2 h
        have HE := Lib.hid (show res = true by rw [HRES.out]; simp; omega)
        clear h2 hO2 hO
        go_wp2_with fail
        go_ret
        exact ⟨by rw [HE.out]; rfl, below_step hb1 hB⟩
      · have d2 : decide (rm < 0) = false := by simp; omega
        have h2 := hO2.1 h
        have HE := Lib.hid (show res = decide (rm < exNL ws) by rw [HRES.out]; simp; omega)
        have HCALL := Lib.hid (heavy_any ws AW cw rm wr h hr1 (Kd.C_below HW.out hB))
        clear h2 hO2 hO
        go_wp2_with fail
        refine HCALL.out.mono ?_
        rintro e W3 ⟨rfl, hb3⟩
        go_wp2_with fail
        go_ret
        exact ⟨by rw [HE.out]; rfl, below_step (below_step hb1 hB) hb3⟩
end Go.Proofs.Ytgnifglolbfamaa
