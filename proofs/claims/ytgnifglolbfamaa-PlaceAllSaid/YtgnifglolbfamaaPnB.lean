/- The law's own word: count. -/
import Derived.Test.YtgnifglolbfamaaPnA
import Derived.StillTailTactics
set_option linter.unusedVariables false
set_option linter.unusedSimpArgs false
namespace Go.Proofs.Ytgnifglolbfamaa
open Go.RowKit Go.Proofs.YtgnifglolbfamaaW.PrintWords

def cntX (l : List Ex) (e : Ex) : Nat := (l.filter (fun x => eqX x e)).length
theorem cntX_le (l : List Ex) (e : Ex) : cntX l e ≤ l.length := List.length_filter_le _ _
theorem cntX_snoc (l : List Ex) (x e : Ex) : cntX (l ++ [x]) e = cntX l e + if eqX x e then 1 else 0 := by
  unfold cntX
  rw [List.filter_append, List.length_append]
  cases h : eqX x e <;> simp [h]

set_option maxHeartbeats 4000000 in
set_option maxRecDepth 100000 in
theorem count_any (l : List Ex) (A : Option Addr) (c : Nat) (e : Ex) (B : Option Addr) (cb : Nat) (w : World) (hC : kEx.C w A l.length l) (hE : kEx.C w B e.f6.length e.f6) :
    Calls Try.prog 26 #[.slice A l.length c, exV e (.slice B e.f6.length cb)] w fun r w' => r = .returned (.int .i64 (cntX l e : Nat)) ∧ Below w.heap.size w w' := by
  have hmx := hC.2.1
  have hb1 := below_new w (.cells #[.int .i64 e.f0, .int .i64 e.f1, .int .i64 e.f2.f0, .int .i64 e.f2.f1, .string e.f2.f2, .bool e.f2.f3, .string e.f3, .int .i64 e.f4, .string e.f5, .slice B e.f6.length cb] 31)
  have hX := Lib.hid (blk_new w (.cells #[.int .i64 e.f0, .int .i64 e.f1, .int .i64 e.f2.f0, .int .i64 e.f2.f1, .string e.f2.f2, .bool e.f2.f3, .string e.f3, .int .i64 e.f4, .string e.f5, .slice B e.f6.length cb] 31))
  have HC := Lib.hid (Kd.C_below hC hb1)
  have HE := Lib.hid (Kd.C_below hE hb1)
  obtain ⟨res, hres⟩ : ∃ res, res = cntX l e := ⟨_, rfl⟩
  rw [← hres]
  have HR := Lib.hid hres
  clear hC hE hres
  unfold exV
  go_enter Try.func26, Try.ntmps26
  go_wp2_with fail
  generalize w.alloc (.cells #[.int .i64 e.f0, .int .i64 e.f1, .int .i64 e.f2.f0, .int .i64 e.f2.f1, .string e.f2.f2, .bool e.f2.f3, .string e.f3, .int .i64 e.f4, .string e.f5, .slice B e.f6.length cb] 31) = W1 at *
  go_loopw [5, 6] (fun t5 t6 wr => ∃ k n : Nat, k ≤ l.length ∧ n ≤ k ∧ t6 = .int .i64 k ∧ t5 = .int .i64 n ∧ Below W1.heap.size W1 wr ∧ Hid (n = cntX (l.take k) e)) (fun _ t6 _ => l.length - (intOf t6).toNat)
  case atStart => exact ⟨0, 0, by omega, by omega, rfl, rfl, Below.refl _ _, Lib.hid rfl⟩
  case round =>
    obtain ⟨k, n, hk, hn, rfl, rfl, hB, hO⟩ := hrel
    by_cases hlt : k < l.length
    · have i1 : (0 : Int) ≤ (k : Int) := by omega
      have i2 : (k : Int) < l.length := by omega
      have hat := atEx (Kd.C_below HC.out hB) k i1 i2
      simp only [Int.toNat_natCast] at hat
      obtain ⟨ad, A9, c9, rfl, a0, a1, a2, a3, a4, a5, a6, a7, a8, a9, hl9, hi9⟩ := hat
      have HY := Lib.hid (rdEx_get l k hlt)
      generalize rdEx l k = y at *
      have hXr := blk_below hX.out hB
      have x0 := (blk_cell hXr 0).trans rfl
      have x1 := (blk_cell hXr 1).trans rfl
      have x2 := (blk_cell hXr 2).trans rfl
      have x3 := (blk_cell hXr 3).trans rfl
      have x4 := (blk_cell hXr 4).trans rfl
      have x5 := (blk_cell hXr 5).trans rfl
      have x6 := (blk_cell hXr 6).trans rfl
      have x7 := (blk_cell hXr 7).trans rfl
      have x8 := (blk_cell hXr 8).trans rfl
      have x9 := (blk_cell hXr 9).trans rfl
      have HCALL := Lib.hid (equal_any (exN y) y e A9 B c9 cb wr.drew (Nat.le_refl _) (Kd.C_below hi9 (below_drew (Below.refl _ _))) (Kd.C_below (Kd.C_below HE.out hB) (below_drew (Below.refl _ _))))
      have HT := Lib.hid (show cntX (l.take (k + 1)) e = n + if eqX y e then 1 else 0 by rw [List.take_succ_eq_append_getElem hlt, cntX_snoc, ← HY.out, ← hO.out])
      generalize eqX y e = b at *
      unfold exV at HCALL
      clear hi9 hXr
      go_wp2_with fail
      go_still_tail 5, (by kernel_rfl)
      change wpList _ _ _ _ _ wr.drew
      have hBd := below_drew hB
      generalize wr.drew = wd at *
      go_wp2_with fail
      refine HCALL.out.mono ?_
      rintro r w3 ⟨rfl, hb3⟩
      have hB3 := below_step hBd hb3
      cases b with
      | true =>
        go_wp2_with fail
        go_roundw
        case rel => exact ⟨k + 1, n + 1, by omega, by omega, by go_num, by go_num, hB3, Lib.hid (by rw [HT.out]; rfl)⟩
        case measure => simp [intOf]; omega
      | false =>
        go_wp2_with fail
        go_roundw
        case rel => exact ⟨k + 1, n, by omega, by omega, by go_num, rfl, hB3, Lib.hid (by rw [HT.out]; rfl)⟩
        case measure => simp [intOf]; omega
    · obtain rfl : k = l.length := by omega
      have hO2 := hO.out
      rw [List.take_length] at hO2
      have HF := Lib.hid (show res = n by rw [HR.out, hO2])
      clear hO2
      go_wp2_with fail
      go_ret
      exact ⟨by rw [HF.out]; rfl, below_step hb1 hB⟩
end Go.Proofs.Ytgnifglolbfamaa
