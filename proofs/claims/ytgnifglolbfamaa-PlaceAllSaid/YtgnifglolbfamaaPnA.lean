/- The walks of tree.Equal and slices.EqualFunc (printed by mkequal.py). -/
import Derived.Test.YtgnifglolbfamaaPlN
import Derived.Laws.EntriesVeiled
set_option linter.unusedVariables false
set_option linter.unusedSimpArgs false
namespace Go.Proofs.Ytgnifglolbfamaa
open Go.RowKit Go.Proofs.YtgnifglolbfamaaW.PrintWords

mutual
def eqX : Ex → Ex → Bool
  | ⟨a0, a1, a2, a3, a4, a5, a6⟩, ⟨b0, b1, b2, b3, b4, b5, b6⟩ =>
    (a0 == b0) && (a1 == b1) && ((a2.f0 == b2.f0) && (a2.f1 == b2.f1) && (a2.f2.toList == b2.f2.toList) && (a2.f3 == b2.f3)) && (a3.toList == b3.toList) && (a4 == b4) && (a5.toList == b5.toList) && eqL a6 b6
def eqL : List Ex → List Ex → Bool
  | [], [] => true
  | x :: xs, y :: ys => eqX x y && eqL xs ys
  | [], _ :: _ => false
  | _ :: _, [] => false
end
theorem eqX_eq (a b : Ex) : eqX a b = ((a.f0 == b.f0) && (a.f1 == b.f1) && ((a.f2.f0 == b.f2.f0) && (a.f2.f1 == b.f2.f1) && (a.f2.f2.toList == b.f2.f2.toList) && (a.f2.f3 == b.f2.f3)) && (a.f3.toList == b.f3.toList) && (a.f4 == b.f4) && (a.f5.toList == b.f5.toList) && eqL a.f6 b.f6) := by cases a; cases b; rw [eqX]
theorem eqL_len : ∀ (a b : List Ex), a.length ≠ b.length → eqL a b = false
  | [], [], h => absurd rfl h
  | [], _ :: _, _ => by rw [eqL]
  | _ :: _, [], _ => by rw [eqL]
  | x :: a, y :: b, h => by
    rw [eqL, eqL_len a b (by intro e; exact h (by simp [e]))]
    simp
theorem eqL_append : ∀ (a a' b b' : List Ex), a.length = a'.length → eqL (a ++ b) (a' ++ b') = (eqL a a' && eqL b b')
  | [], [], b, b', _ => by rw [eqL]; simp
  | [], _ :: _, _, _, h => by simp at h
  | _ :: _, [], _, _, h => by simp at h
  | x :: a, y :: a', b, b', h => by
    simp only [List.cons_append]
    rw [eqL, eqL, eqL_append a a' b b' (by simpa using h), Bool.and_assoc]
mutual
theorem eqX_iff : ∀ a b : Ex, eqX a b = true ↔ a = b
  | ⟨a0, a1, ⟨v0, v1, v2, v3⟩, a3, a4, a5, a6⟩, ⟨b0, b1, ⟨u0, u1, u2, u3⟩, b3, b4, b5, b6⟩ => by
    have h := eqL_iff a6 b6
    have hb : ∀ s t : ByteArray, (s.toList == t.toList) = true ↔ s = t := by
      intro s t
      rw [Lib.toList_data, Lib.toList_data, beq_iff_eq]
      constructor
      · intro e
        cases s; cases t
        simp at e ⊢
        exact e
      · rintro rfl; rfl
    rw [eqX]
    simp only [Bool.and_eq_true, beq_iff_eq, hb, h, Ex.mk.injEq, Val.mk.injEq]
    constructor
    · rintro ⟨⟨⟨⟨⟨⟨rfl, rfl⟩, ⟨⟨rfl, rfl⟩, rfl⟩, rfl⟩, rfl⟩, rfl⟩, rfl⟩, rfl⟩
      simp
    · rintro ⟨rfl, rfl, ⟨rfl, rfl, rfl, rfl⟩, rfl, rfl, rfl, rfl⟩
      simp
theorem eqL_iff : ∀ a b : List Ex, eqL a b = true ↔ a = b
  | [], [] => by rw [eqL]; simp
  | [], _ :: _ => by rw [eqL]; simp
  | _ :: _, [] => by rw [eqL]; simp
  | x :: a, y :: b => by
    rw [eqL, Bool.and_eq_true, eqX_iff x y, eqL_iff a b]
    simp
end

def EqAt (m : Nat) : Prop := ∀ (x y : Ex) (A B : Option Addr) (c d : Nat) (w : World), exN x ≤ m → kEx.C w A x.f6.length x.f6 → kEx.C w B y.f6.length y.f6 →
    Calls Try.prog 50 #[exV x (.slice A x.f6.length c), exV y (.slice B y.f6.length d)] w fun e w' => e = .returned (.bool (eqX x y)) ∧ Below w.heap.size w w'

set_option maxHeartbeats 2000000 in
set_option maxRecDepth 100000 in
theorem eqf_any (m : Nat) (ih : EqAt m) (xs ys : List Ex) (A B : Option Addr) (c d : Nat) (w : World) (hm : ∀ x ∈ xs, exN x ≤ m) (hC : kEx.C w A xs.length xs) (hD : kEx.C w B ys.length ys) :
    Calls Try.prog 64 #[.slice A xs.length c, .slice B ys.length d, .func (.func 50) #[] #[]] w fun e w' => e = .returned (.bool (eqL xs ys)) ∧ Below w.heap.size w w' := by
  have HC := Lib.hid hC
  have HD := Lib.hid hD
  have hmx := hC.2.1
  have HL := Lib.hid (eqL_len xs ys)
  obtain ⟨res, hres⟩ : ∃ res, res = eqL xs ys := ⟨_, rfl⟩
  rw [← hres]
  have HR := Lib.hid hres
  clear hres hC hD
  by_cases hl : xs.length = ys.length
  · have d0 : ((xs.length : Int) != (ys.length : Int)) = false := by rw [hl]; simp
    have HLL := Lib.hid hl
    clear hl
    go_enter Try.func64, Try.ntmps64
    go_wp2_with fail
    go_loopw [17] (fun t17 wr => ∃ k : Nat, k ≤ xs.length ∧ t17 = .int .i64 k ∧ Below w.heap.size w wr ∧ Hid (eqL (xs.take k) (ys.take k) = true)) (fun t17 _ => xs.length - (intOf t17).toNat)
    case atStart => exact ⟨0, by omega, rfl, Below.refl _ _, Lib.hid (by simp [eqL])⟩
    case round =>
      obtain ⟨k, hk, rfl, hB, hO⟩ := hrel
      by_cases hlt : k < xs.length
      · have hlt2 : k < ys.length := by rw [← HLL.out]; exact hlt
        have i1 : (0 : Int) ≤ (k : Int) := by omega
        have i2 : (k : Int) < xs.length := by omega
        have i3 : (k : Int) < ys.length := by omega
        have hat := atEx (Kd.C_below HC.out hB) k i1 i2
        simp only [Int.toNat_natCast] at hat
        obtain ⟨ad, A9, c9, rfl, a0, a1, a2, a3, a4, a5, a6, a7, a8, a9, hl9, hi9⟩ := hat
        have hat := atEx (Kd.C_below HD.out hB) k i1 i3
        simp only [Int.toNat_natCast] at hat
        obtain ⟨bd, B9, d9, rfl, b0, b1, b2, b3, b4, b5, b6, b7, b8, b9, hm9, hj9⟩ := hat
        have HX := Lib.hid (rdEx_get xs k hlt)
        have HY := Lib.hid (rdEx_get ys k hlt2)
        generalize rdEx xs k = x at *
        generalize rdEx ys k = y at *
        have hmem : x ∈ xs := by rw [HX.out]; exact List.getElem_mem hlt
        have hbx := below_new wr (.cells #[.int .i64 x.f0, .int .i64 x.f1, .int .i64 x.f2.f0, .int .i64 x.f2.f1, .string x.f2.f2, .bool x.f2.f3, .string x.f3, .int .i64 x.f4, .string x.f5, .slice A9 x.f6.length c9] 31)
        have hb2 := below_step hbx (below_new _ (.cells #[.int .i64 y.f0, .int .i64 y.f1, .int .i64 y.f2.f0, .int .i64 y.f2.f1, .string y.f2.f2, .bool y.f2.f3, .string y.f3, .int .i64 y.f4, .string y.f5, .slice B9 y.f6.length d9] 31))
        have b0 := pw_cell_below hbx b0
        have b1 := pw_cell_below hbx b1
        have b2 := pw_cell_below hbx b2
        have b3 := pw_cell_below hbx b3
        have b4 := pw_cell_below hbx b4
        have b5 := pw_cell_below hbx b5
        have b6 := pw_cell_below hbx b6
        have b7 := pw_cell_below hbx b7
        have b8 := pw_cell_below hbx b8
        have b9 := pw_cell_below hbx b9
        have hX := blk_below (blk_new wr (.cells #[.int .i64 x.f0, .int .i64 x.f1, .int .i64 x.f2.f0, .int .i64 x.f2.f1, .string x.f2.f2, .bool x.f2.f3, .string x.f3, .int .i64 x.f4, .string x.f5, .slice A9 x.f6.length c9] 31)) (below_new _ (.cells #[.int .i64 y.f0, .int .i64 y.f1, .int .i64 y.f2.f0, .int .i64 y.f2.f1, .string y.f2.f2, .bool y.f2.f3, .string y.f3, .int .i64 y.f4, .string y.f5, .slice B9 y.f6.length d9] 31))
        have x0 := (blk_cell hX 0).trans rfl
        have x1 := (blk_cell hX 1).trans rfl
        have x2 := (blk_cell hX 2).trans rfl
        have x3 := (blk_cell hX 3).trans rfl
        have x4 := (blk_cell hX 4).trans rfl
        have x5 := (blk_cell hX 5).trans rfl
        have x6 := (blk_cell hX 6).trans rfl
        have x7 := (blk_cell hX 7).trans rfl
        have x8 := (blk_cell hX 8).trans rfl
        have x9 := (blk_cell hX 9).trans rfl
        have hcall := ih x y A9 B9 c9 d9 _ (hm x hmem) (Kd.C_below hi9 hb2) (Kd.C_below hj9 hb2)
        have HS := Lib.hid (show eqL (xs.take (k + 1)) (ys.take (k + 1)) = eqX x y by
          rw [List.take_succ_eq_append_getElem hlt, List.take_succ_eq_append_getElem hlt2, eqL_append _ _ _ _ (by rw [List.length_take, List.length_take, HLL.out]), hO.out, ← HX.out, ← HY.out]
          simp [eqL])
        have HS2 := Lib.hid (show eqL xs ys = (eqL (xs.take (k + 1)) (ys.take (k + 1)) && eqL (xs.drop (k + 1)) (ys.drop (k + 1))) by
          rw [← eqL_append _ _ _ _ (by rw [List.length_take, List.length_take, HLL.out]), List.take_append_drop, List.take_append_drop])
        generalize hb : eqX x y = b at *
        have HCALL := Lib.hid hcall
        unfold exV at HCALL
        clear hcall hb hX hi9 hj9
        go_wp2_with fail
        refine HCALL.out.mono ?_
        rintro e w3 ⟨rfl, hb3⟩
        have hB3 := below_step (below_step hB hb2) hb3
        cases b with
        | true =>
          go_wp2_with fail
          go_roundw
          case rel => exact ⟨k + 1, by omega, by go_num, hB3, Lib.hid HS.out⟩
          case measure => simp [intOf]; omega
        | false =>
          have HE := Lib.hid (show res = false by rw [HR.out, HS2.out, HS.out]; rfl)
          go_wp2_with fail
          go_ret
          exact ⟨by rw [HE.out]; rfl, hB3⟩
      · obtain rfl : k = xs.length := by omega
        have hO2 := hO.out
        rw [List.take_length, HLL.out, List.take_length] at hO2
        have HE := Lib.hid (show res = true by rw [HR.out]; exact hO2)
        go_wp2_with fail
        go_ret
        exact ⟨by rw [HE.out]; rfl, hB⟩
  · have d0 : ((xs.length : Int) != (ys.length : Int)) = true := by rw [bne_iff_ne]; omega
    have HE := Lib.hid (show res = false by rw [HR.out]; exact HL.out hl)
    go_enter Try.func64, Try.ntmps64
    go_wp2_with fail
    go_ret
    exact ⟨by rw [HE.out]; rfl, Below.refl _ _⟩

set_option maxHeartbeats 4000000 in
set_option maxRecDepth 100000 in
theorem equal_any : ∀ m, EqAt m := by
  intro m
  induction m with
  | zero => intro x y A B c d w h; rw [exN_eq] at h; omega
  | succ m ih =>
    intro x y A B c d w hm hC hD
    rw [exN_eq] at hm
    have hb2 := below_step (below_new w (.cells #[.int .i64 x.f0, .int .i64 x.f1, .int .i64 x.f2.f0, .int .i64 x.f2.f1, .string x.f2.f2, .bool x.f2.f3, .string x.f3, .int .i64 x.f4, .string x.f5, .slice A x.f6.length c] 31)) (below_new _ (.cells #[.int .i64 y.f0, .int .i64 y.f1, .int .i64 y.f2.f0, .int .i64 y.f2.f1, .string y.f2.f2, .bool y.f2.f3, .string y.f3, .int .i64 y.f4, .string y.f5, .slice B y.f6.length d] 31))
    have hcall := fun (W : World) (hb : Below w.heap.size w W) => eqf_any m ih x.f6 y.f6 A B c d W (fun z hz => by
      obtain ⟨i, hi, rfl⟩ := List.getElem_of_mem hz
      have := exN_get x.f6 i hi
      omega) (Kd.C_below hC hb) (Kd.C_below hD hb)
    have hX := blk_below (blk_new w (.cells #[.int .i64 x.f0, .int .i64 x.f1, .int .i64 x.f2.f0, .int .i64 x.f2.f1, .string x.f2.f2, .bool x.f2.f3, .string x.f3, .int .i64 x.f4, .string x.f5, .slice A x.f6.length c] 31)) (below_new _ (.cells #[.int .i64 y.f0, .int .i64 y.f1, .int .i64 y.f2.f0, .int .i64 y.f2.f1, .string y.f2.f2, .bool y.f2.f3, .string y.f3, .int .i64 y.f4, .string y.f5, .slice B y.f6.length d] 31))
    have hY := blk_new (w.alloc (.cells #[.int .i64 x.f0, .int .i64 x.f1, .int .i64 x.f2.f0, .int .i64 x.f2.f1, .string x.f2.f2, .bool x.f2.f3, .string x.f3, .int .i64 x.f4, .string x.f5, .slice A x.f6.length c] 31)) (.cells #[.int .i64 y.f0, .int .i64 y.f1, .int .i64 y.f2.f0, .int .i64 y.f2.f1, .string y.f2.f2, .bool y.f2.f3, .string y.f3, .int .i64 y.f4, .string y.f5, .slice B y.f6.length d] 31)
    rw [alloc_size'] at hY
    have p0 := (blk_cell hX 0).trans rfl
    have p1 := (blk_cell hX 1).trans rfl
    have p2 := (blk_cell hX 2).trans rfl
    have p3 := (blk_cell hX 3).trans rfl
    have p4 := (blk_cell hX 4).trans rfl
    have p5 := (blk_cell hX 5).trans rfl
    have p6 := (blk_cell hX 6).trans rfl
    have p7 := (blk_cell hX 7).trans rfl
    have p8 := (blk_cell hX 8).trans rfl
    have p9 := (blk_cell hX 9).trans rfl
    have q0 := (blk_cell hY 0).trans rfl
    have q1 := (blk_cell hY 1).trans rfl
    have q2 := (blk_cell hY 2).trans rfl
    have q3 := (blk_cell hY 3).trans rfl
    have q4 := (blk_cell hY 4).trans rfl
    have q5 := (blk_cell hY 5).trans rfl
    have q6 := (blk_cell hY 6).trans rfl
    have q7 := (blk_cell hY 7).trans rfl
    have q8 := (blk_cell hY 8).trans rfl
    have q9 := (blk_cell hY 9).trans rfl
    have H1 := eqX_eq x y
    obtain ⟨res, hres⟩ : ∃ res, res = eqX x y := ⟨_, rfl⟩
    rw [← hres] at H1 ⊢
    have HCALL := Lib.hid hcall
    have H1 := Lib.hid H1
    clear hcall hres hC hD ih hX hY
    unfold exV
    rcases Bool.eq_false_or_eq_true (x.f0 == y.f0) with d0 | d0
    rotate_left
    · have HE := Lib.hid (show res = false by rw [H1.out, d0]; simp)
      go_enter Try.func50, Try.ntmps50
      go_wp2_with fail
      go_ret
      exact ⟨by rw [HE.out]; rfl, hb2⟩
    rcases Bool.eq_false_or_eq_true (x.f1 == y.f1) with d1 | d1
    rotate_left
    · have HE := Lib.hid (show res = false by rw [H1.out, d0, d1]; simp)
      go_enter Try.func50, Try.ntmps50
      go_wp2_with fail
      go_ret
      exact ⟨by rw [HE.out]; rfl, hb2⟩
    rcases Bool.eq_false_or_eq_true (x.f2.f0 == y.f2.f0) with d2 | d2
    rotate_left
    · have HE := Lib.hid (show res = false by rw [H1.out, d0, d1, d2]; simp)
      go_enter Try.func50, Try.ntmps50
      go_wp2_with fail
      go_ret
      exact ⟨by rw [HE.out]; rfl, hb2⟩
    rcases Bool.eq_false_or_eq_true (x.f2.f1 == y.f2.f1) with d3 | d3
    rotate_left
    · have HE := Lib.hid (show res = false by rw [H1.out, d0, d1, d2, d3]; simp)
      go_enter Try.func50, Try.ntmps50
      go_wp2_with fail
      go_ret
      exact ⟨by rw [HE.out]; rfl, hb2⟩
    rcases Bool.eq_false_or_eq_true (x.f2.f2.toList == y.f2.f2.toList) with d4 | d4
    rotate_left
    · have HE := Lib.hid (show res = false by rw [H1.out, d0, d1, d2, d3, d4]; simp)
      go_enter Try.func50, Try.ntmps50
      go_wp2_with fail
      go_ret
      exact ⟨by rw [HE.out]; rfl, hb2⟩
    rcases Bool.eq_false_or_eq_true (x.f2.f3 == y.f2.f3) with d5 | d5
    rotate_left
    · have HE := Lib.hid (show res = false by rw [H1.out, d0, d1, d2, d3, d4, d5]; simp)
      go_enter Try.func50, Try.ntmps50
      go_wp2_with fail
      go_ret
      exact ⟨by rw [HE.out]; rfl, hb2⟩
    rcases Bool.eq_false_or_eq_true (x.f3.toList == y.f3.toList) with d6 | d6
    rotate_left
    · have HE := Lib.hid (show res = false by rw [H1.out, d0, d1, d2, d3, d4, d5, d6]; simp)
      go_enter Try.func50, Try.ntmps50
      go_wp2_with fail
      go_ret
      exact ⟨by rw [HE.out]; rfl, hb2⟩
    rcases Bool.eq_false_or_eq_true (x.f4 == y.f4) with d7 | d7
    rotate_left
    · have HE := Lib.hid (show res = false by rw [H1.out, d0, d1, d2, d3, d4, d5, d6, d7]; simp)
      go_enter Try.func50, Try.ntmps50
      go_wp2_with fail
      go_ret
      exact ⟨by rw [HE.out]; rfl, hb2⟩
    rcases Bool.eq_false_or_eq_true (x.f5.toList == y.f5.toList) with d8 | d8
    rotate_left
    · have HE := Lib.hid (show res = false by rw [H1.out, d0, d1, d2, d3, d4, d5, d6, d7, d8]; simp)
      go_enter Try.func50, Try.ntmps50
      go_wp2_with fail
      go_ret
      exact ⟨by rw [HE.out]; rfl, hb2⟩
    have HE := Lib.hid (show res = eqL x.f6 y.f6 by rw [H1.out, d0, d1, d2, d3, d4, d5, d6, d7, d8]; simp)
    go_enter Try.func50, Try.ntmps50
    go_wp2_with fail
    refine (HCALL.out _ hb2).mono ?_
    rintro e w3 ⟨rfl, hb3⟩
    go_wp2_with fail
    go_ret
    exact ⟨by rw [HE.out]; rfl, below_step hb2 hb3⟩
end Go.Proofs.Ytgnifglolbfamaa
