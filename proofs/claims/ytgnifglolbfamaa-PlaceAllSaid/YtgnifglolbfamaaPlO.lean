/- The law's own words: ref, bound. -/
import Derived.Test.YtgnifglolbfamaaPlN
import Derived.StillTailTactics
set_option linter.unusedVariables false
set_option linter.unusedSimpArgs false
namespace Go.Proofs.Ytgnifglolbfamaa
open Go.RowKit Go.Proofs.YtgnifglolbfamaaW.PrintWords

/-- A reference, as the law makes it. -/
def refX (v : ByteArray) (at_ : Int) : Ex := ⟨2, 0, zVal, v, at_, ⟨#[120]⟩, []⟩

set_option maxHeartbeats 2000000 in
set_option maxRecDepth 100000 in
theorem ref_any (v : ByteArray) (n : Int) (w : World) :
    Calls Try.prog 36 #[.string v, .int .i64 n] w fun e w' => e = .returned (exV (refX v n) (.slice none 0 0)) ∧ Below w.heap.size w w' := by
  go_enter Try.func36, Try.ntmps36
  go_wp2_with fail
  refine bodyPost_ret (results_cell_row rfl _ _ w.heap.size 31 #[.int .i64 2, .int .i64 0, .int .i64 0, .int .i64 0, .string ⟨#[]⟩, .bool false, .string v, .int .i64 n, .string ⟨#[120]⟩, .slice none 0 0] (0, 0) _ rfl (blk_new w _) Try.underlying31 rfl (by kernel_rfl)) rfl ?_
  exact ⟨rfl, below_new _ _⟩

def boundB (cs : List Cp) (r : Rf) (mom : Int) : Bool := decide (2 * (stg (cs.take ((vix cs r.f0.data.toList).getD (-1)).toNat) : Int) + (if (r.f1 == 5 || r.f1 == 6) then 1 else 0) ≤ mom)

set_option maxHeartbeats 2000000 in
set_option maxRecDepth 100000 in
theorem bound_any (cs : List Cp) (A : Option Addr) (c : Nat) (q1 : ByteArray) (q2 : Int) (v3 v4 : Value) (q5 : Int) (q6 : ByteArray) (v7 : Value) (h3 : v3.oneCell' = true) (h4 : v4.oneCell' = true) (h7 : v7.oneCell' = true) (r : Rf) (mom : Int) (w : World)
    (hv : (vix cs r.f0.data.toList).isSome = true) (hlen : cs.length ≤ 8) (hC : kCp.C w A cs.length cs) :
    Calls Try.prog 15 #[.agg #[.slice A cs.length c, .string q1, .int .i64 q2, v3, v4, .int .i64 q5, .string q6, v7], .agg #[.string r.f0, .int .i64 r.f1, .string r.f2, .int .i64 r.f3], .int .i64 mom] w fun e w' => e = .returned (.bool (boundB cs r mom)) ∧ Below w.heap.size w w' := by
  obtain ⟨i, hi⟩ := Option.isSome_iff_exists.1 hv
  obtain ⟨hi0, hi1⟩ := vix_bound _ _ _ hi
  obtain ⟨j, rfl⟩ := Int.eq_ofNat_of_zero_le hi0
  have hb2 := below_step (below_new w (.cells #[.slice A cs.length c, .string q1, .int .i64 q2, v3, v4, .int .i64 q5, .string q6, v7] 27)) (below_new _ (.cells #[.string r.f0, .int .i64 r.f1, .string r.f2, .int .i64 r.f3] 42))
  have hQ := blk_below (blk_new w (.cells #[.slice A cs.length c, .string q1, .int .i64 q2, v3, v4, .int .i64 q5, .string q6, v7] 27)) (below_new _ (.cells #[.string r.f0, .int .i64 r.f1, .string r.f2, .int .i64 r.f3] 42))
  have hR := blk_new (w.alloc (.cells #[.slice A cs.length c, .string q1, .int .i64 q2, v3, v4, .int .i64 q5, .string q6, v7] 27)) (.cells #[.string r.f0, .int .i64 r.f1, .string r.f2, .int .i64 r.f3] 42)
  rw [alloc_size'] at hR
  have hcomp := fun W hC => comp_any cs A c q1 q2 v3 v4 q5 q6 v7 h3 h4 h7 r.f0 W hC
  have hstage := fun W hC => stage_any cs A c q1 q2 v3 v4 q5 q6 v7 h3 h4 h7 j (by omega) W hC
  have hCW := Kd.C_below hC hb2
  obtain ⟨res, hres⟩ : ∃ res, res = boundB cs r mom := ⟨_, rfl⟩
  rw [← hres]
  replace hres : res = true ↔ 2 * (stg (cs.take ((vix cs r.f0.data.toList).getD (-1)).toNat) : Int) + (if (r.f1 == 5 || r.f1 == 6) then 1 else 0) ≤ mom := by rw [hres]; exact decide_eq_true_iff
  rw [hi] at hcomp hres
  simp only [Option.getD_some] at hcomp hres
  simp only [Int.toNat_natCast] at hres
  have hst : stg (cs.take j) ≤ 8 := by
    have h1 : ∀ l : List Cp, stg l ≤ l.length := by
      intro l
      induction l with
      | nil => simp [stg]
      | cons a l ih => cases h : a.f0 <;> simp [stg, h] <;> omega
    have := h1 (cs.take j)
    rw [List.length_take] at this
    omega
  obtain ⟨s, hs⟩ : ∃ s, s = stg (cs.take j) := ⟨_, rfl⟩
  rw [← hs] at hst hstage hres
  have HRES := Lib.hid hres
  clear hs hres
  have HCO := Lib.hid hcomp
  have HST := Lib.hid hstage
  have HCW := Lib.hid hCW
  clear hcomp hstage hCW hC hv hi
  go_enter Try.func15, Try.ntmps15
  go_wp2_with fail
  generalize (w.alloc (.cells #[.slice A cs.length c, .string q1, .int .i64 q2, v3, v4, .int .i64 q5, .string q6, v7] 27)).alloc (.cells #[.string r.f0, .int .i64 r.f1, .string r.f2, .int .i64 r.f3] 42) = W1 at *
  have kq0 := (blk_cell hQ 0).trans rfl
  have kq1 := (blk_cell hQ 1).trans rfl
  have kq2 := (blk_cell hQ 2).trans rfl
  have kq3 := (blk_cell hQ 3).trans rfl
  have kq4 := (blk_cell hQ 4).trans rfl
  have kq5 := (blk_cell hQ 5).trans rfl
  have kq6 := (blk_cell hQ 6).trans rfl
  have kq7 := (blk_cell hQ 7).trans rfl
  have r0 := (blk_cell hR 0).trans rfl
  have r1 := (blk_cell hR 1).trans rfl
  have r2 := (blk_cell hR 2).trans rfl
  have r3 := (blk_cell hR 3).trans rfl
  have HKeep := Lib.hid (show ∀ w', Below W1.heap.size W1 w' → w'.cell? ⟨w.heap.size, 0, none⟩ = some (.slice A cs.length c) ∧ w'.cell? ⟨w.heap.size, 1, none⟩ = some (.string q1) ∧ w'.cell? ⟨w.heap.size, 2, none⟩ = some (.int .i64 q2) ∧ w'.cell? ⟨w.heap.size, 3, none⟩ = some (v3) ∧ w'.cell? ⟨w.heap.size, 4, none⟩ = some (v4) ∧ w'.cell? ⟨w.heap.size, 5, none⟩ = some (.int .i64 q5) ∧ w'.cell? ⟨w.heap.size, 6, none⟩ = some (.string q6) ∧ w'.cell? ⟨w.heap.size, 7, none⟩ = some (v7) ∧ w'.cell? ⟨w.heap.size + 1, 0, none⟩ = some (.string r.f0) from fun w' hb => ⟨pw_cell_below hb kq0, pw_cell_below hb kq1, pw_cell_below hb kq2, pw_cell_below hb kq3, pw_cell_below hb kq4, pw_cell_below hb kq5, pw_cell_below hb kq6, pw_cell_below hb kq7, pw_cell_below hb r0⟩)
  have HC13 := Lib.hid (show ∀ W, Below W1.heap.size W1 W → _ from fun W hb => HCO.out W (Kd.C_below HCW.out hb))
  have HC14 := Lib.hid (show ∀ W, Below W1.heap.size W1 W → _ from fun W hb => HST.out W (Kd.C_below HCW.out hb))
  go_region_held3 (fun w' => w'.cell? ⟨w.heap.size, 0, none⟩ = some (.slice A cs.length c) ∧ w'.cell? ⟨w.heap.size, 1, none⟩ = some (.string q1) ∧ w'.cell? ⟨w.heap.size, 2, none⟩ = some (.int .i64 q2) ∧ w'.cell? ⟨w.heap.size, 3, none⟩ = some (v3) ∧ w'.cell? ⟨w.heap.size, 4, none⟩ = some (v4) ∧ w'.cell? ⟨w.heap.size, 5, none⟩ = some (.int .i64 q5) ∧ w'.cell? ⟨w.heap.size, 6, none⟩ = some (.string q6) ∧ w'.cell? ⟨w.heap.size, 7, none⟩ = some (v7) ∧ w'.cell? ⟨w.heap.size + 1, 0, none⟩ = some (.string r.f0)) (first | exact HKeep.out _ (Below.refl _ _) | exact HKeep.out _ (below_drew (Below.refl _ _)) | exact HKeep.out _ (by assumption) | exact HKeep.out _ (below_drew (by assumption))) (first | ((go_at_call 13; refine (HC13.out _ (by first | exact below_drew (Below.refl _ _) | assumption)).mono ?_; rintro e w5 ⟨rfl, hb5⟩; have hbk : Below W1.heap.size W1 w5 := (by first | exact below_step (below_drew (Below.refl _ _)) hb5 | exact below_step (by assumption) hb5))) | ((go_at_call 14; refine (HC14.out _ (by first | assumption | exact below_drew (Below.refl _ _))).mono ?_; rintro e w6 ⟨rfl, hb6⟩; have hbk2 : Below W1.heap.size W1 w6 := (by first | exact below_step (by assumption) hb6 | exact below_step (below_drew (Below.refl _ _)) hb6))))
  have hR4 := blk_below hR hbk2
  have hB := below_step hb2 hbk2
  have r0 := (blk_cell hR4 0).trans rfl
  have r1 := (blk_cell hR4 1).trans rfl
  have r2 := (blk_cell hR4 2).trans rfl
  have r3 := (blk_cell hR4 3).trans rfl
  have fin : ∀ (tb : Bool) (k : Int), (r.f1 == 5 || r.f1 == 6) = tb → (if tb then 1 else 0) = k → Hid (res = decide (2 * (s : Int) + k ≤ mom)) := fun tb k h1 h2 => Lib.hid (by
    have := HRES.out
    rw [h1] at this
    subst h2
    cases tb <;> simp only [Bool.false_eq_true, if_false, if_true] at this ⊢ <;> rw [Bool.eq_iff_iff, decide_eq_true_iff] <;> exact this)
  have hcase : (∃ u : Unit, (r.f1 == 5) = true ∧ Hid (res = decide (2 * (s : Int) + 1 ≤ mom))) ∨ ((r.f1 == 5) = false ∧ (r.f1 == 6) = true ∧ Hid (res = decide (2 * (s : Int) + 1 ≤ mom))) ∨ ((r.f1 == 5) = false ∧ (r.f1 == 6) = false ∧ Hid (res = decide (2 * (s : Int) + 0 ≤ mom))) := by
    rcases Bool.eq_false_or_eq_true (r.f1 == 5) with d5 | d5
    · exact Or.inl ⟨(), d5, fin true 1 (by rw [d5]; rfl) rfl⟩
    · rcases Bool.eq_false_or_eq_true (r.f1 == 6) with d6 | d6
      · exact Or.inr (Or.inl ⟨d5, d6, fin true 1 (by rw [d5, d6]; rfl) rfl⟩)
      · exact Or.inr (Or.inr ⟨d5, d6, fin false 0 (by rw [d5, d6]; rfl) rfl⟩)
  clear fin HRES
  rcases hcase with ⟨_, d5, HRM⟩ | ⟨d5, d6, HRM⟩ | ⟨d5, d6, HRM⟩
  all_goals
    go_wp2_with fail
    go_ret
    exact ⟨by rw [HRM.out]; simp, hB⟩
end Go.Proofs.Ytgnifglolbfamaa
