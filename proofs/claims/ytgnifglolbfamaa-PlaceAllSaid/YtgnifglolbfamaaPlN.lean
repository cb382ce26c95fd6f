/- The walk of place.own: an expression in new memory. -/
import Derived.Test.YtgnifglolbfamaaPlM
set_option linter.unusedVariables false
set_option linter.unusedSimpArgs false
namespace Go.Proofs.Ytgnifglolbfamaa
open Go.RowKit Go.Proofs.YtgnifglolbfamaaW.PrintWords

theorem blk_set10 {w : World} {g : Nat} {t : TypeId} {a0 a1 a2 a3 a4 a5 a6 a7 a8 a9 : Value} (h : w.heap[g]? = some (.cells #[a0, a1, a2, a3, a4, a5, a6, a7, a8, a9] t (0, 0))) (v0 v1 v2 v3 v4 v5 v6 v7 v8 v9 : Value) : ((((((((((w.setCell ⟨g, 0, none⟩ v0).setCell ⟨g, 1, none⟩ v1).setCell ⟨g, 2, none⟩ v2).setCell ⟨g, 3, none⟩ v3).setCell ⟨g, 4, none⟩ v4).setCell ⟨g, 5, none⟩ v5).setCell ⟨g, 6, none⟩ v6).setCell ⟨g, 7, none⟩ v7).setCell ⟨g, 8, none⟩ v8).setCell ⟨g, 9, none⟩ v9).heap[g]? = some (.cells #[v0, v1, v2, v3, v4, v5, v6, v7, v8, v9] t (0, 0)) :=
  (blk_put (cs' := #[v0, v1, v2, v3, v4, v5, v6, v7, v8, v9]) (blk_put (cs' := #[v0, v1, v2, v3, v4, v5, v6, v7, v8, a9]) (blk_put (cs' := #[v0, v1, v2, v3, v4, v5, v6, v7, a8, a9]) (blk_put (cs' := #[v0, v1, v2, v3, v4, v5, v6, a7, a8, a9]) (blk_put (cs' := #[v0, v1, v2, v3, v4, v5, a6, a7, a8, a9]) (blk_put (cs' := #[v0, v1, v2, v3, v4, a5, a6, a7, a8, a9]) (blk_put (cs' := #[v0, v1, v2, v3, a4, a5, a6, a7, a8, a9]) (blk_put (cs' := #[v0, v1, v2, a3, a4, a5, a6, a7, a8, a9]) (blk_put (cs' := #[v0, v1, a2, a3, a4, a5, a6, a7, a8, a9]) (blk_put (cs' := #[v0, a1, a2, a3, a4, a5, a6, a7, a8, a9]) h 0 v0 rfl) 1 v1 rfl) 2 v2 rfl) 3 v3 rfl) 4 v4 rfl) 5 v5 rfl) 6 v6 rfl) 7 v7 rfl) 8 v8 rfl) 9 v9 rfl)
theorem R_far10 {α : Type} {d : Kd α} {e base : Nat} {w : World} {ok : Nat → Prop} {v : Value} {xs : List α} (h : d.R e w base ok v xs) (g : Nat) (hg : ∀ k, ok k → k ≠ g) (v0 v1 v2 v3 v4 v5 v6 v7 v8 v9 : Value) : d.R e ((((((((((w.setCell ⟨g, 0, none⟩ v0).setCell ⟨g, 1, none⟩ v1).setCell ⟨g, 2, none⟩ v2).setCell ⟨g, 3, none⟩ v3).setCell ⟨g, 4, none⟩ v4).setCell ⟨g, 5, none⟩ v5).setCell ⟨g, 6, none⟩ v6).setCell ⟨g, 7, none⟩ v7).setCell ⟨g, 8, none⟩ v8).setCell ⟨g, 9, none⟩ v9) base ok v xs :=
  (Kd.R_far (p := ⟨g, 9, none⟩) (Kd.R_far (p := ⟨g, 8, none⟩) (Kd.R_far (p := ⟨g, 7, none⟩) (Kd.R_far (p := ⟨g, 6, none⟩) (Kd.R_far (p := ⟨g, 5, none⟩) (Kd.R_far (p := ⟨g, 4, none⟩) (Kd.R_far (p := ⟨g, 3, none⟩) (Kd.R_far (p := ⟨g, 2, none⟩) (Kd.R_far (p := ⟨g, 1, none⟩) (Kd.R_far (p := ⟨g, 0, none⟩) h hg v0) hg v1) hg v2) hg v3) hg v4) hg v5) hg v6) hg v7) hg v8) hg v9)
theorem below_set10 {w0 w : World} {g : Nat} (h : Below w0.heap.size w0 w) (hg : w0.heap.size ≤ g) (v0 v1 v2 v3 v4 v5 v6 v7 v8 v9 : Value) : Below w0.heap.size w0 ((((((((((w.setCell ⟨g, 0, none⟩ v0).setCell ⟨g, 1, none⟩ v1).setCell ⟨g, 2, none⟩ v2).setCell ⟨g, 3, none⟩ v3).setCell ⟨g, 4, none⟩ v4).setCell ⟨g, 5, none⟩ v5).setCell ⟨g, 6, none⟩ v6).setCell ⟨g, 7, none⟩ v7).setCell ⟨g, 8, none⟩ v8).setCell ⟨g, 9, none⟩ v9) :=
  (below_set (below_set (below_set (below_set (below_set (below_set (below_set (below_set (below_set (below_set h hg) hg) hg) hg) hg) hg) hg) hg) hg) hg)
def OwnPost (x : Ex) (w : World) (e : Ending) (w' : World) : Prop := Below w.heap.size w w' ∧ ∃ v, e = .returned (exV x v) ∧ kEx.R 31 w' w.heap.size (fun _ => True) v x.f6

set_option maxHeartbeats 2000000 in
set_option maxRecDepth 100000 in
theorem own_any : ∀ (m : Nat) (x : Ex) (A : Option Addr) (c : Nat) (w : World), exN x ≤ m → exN x ≤ 100000000000 → x.f6.length ≤ c → kEx.C w A x.f6.length x.f6 →
    Calls Try.prog 61 #[exV x (.slice A x.f6.length c)] w (OwnPost x w) := by
  intro m
  induction m with
  | zero => intro x A c w h; rw [exN_eq] at h; omega
  | succ m ih =>
    intro x A c w hm hN hc hC
    rw [exN_eq] at hm hN
    have hmx := hC.2.1
    have h1 := below_new w (.cells #[.int .i64 x.f0, .int .i64 x.f1, .int .i64 x.f2.f0, .int .i64 x.f2.f1, .string x.f2.f2, .bool x.f2.f3, .string x.f3, .int .i64 x.f4, .string x.f5, .slice A x.f6.length c] 31)
    have hb2 := below_step h1 (below_new _ (.cells #[.int .i64 0, .int .i64 0, .int .i64 0, .int .i64 0, .string ⟨#[]⟩, .bool false, .string ⟨#[]⟩, .int .i64 0, .string ⟨#[]⟩, .slice none 0 0] 31))
    have hX := blk_new1 w (.cells #[.int .i64 x.f0, .int .i64 x.f1, .int .i64 x.f2.f0, .int .i64 x.f2.f1, .string x.f2.f2, .bool x.f2.f3, .string x.f3, .int .i64 x.f4, .string x.f5, .slice A x.f6.length c] 31) (.cells #[.int .i64 0, .int .i64 0, .int .i64 0, .int .i64 0, .string ⟨#[]⟩, .bool false, .string ⟨#[]⟩, .int .i64 0, .string ⟨#[]⟩, .slice none 0 0] 31)
    have hX := blk_below (blk_new w (.cells #[.int .i64 x.f0, .int .i64 x.f1, .int .i64 x.f2.f0, .int .i64 x.f2.f1, .string x.f2.f2, .bool x.f2.f3, .string x.f3, .int .i64 x.f4, .string x.f5, .slice A x.f6.length c] 31)) (below_new _ (.cells #[.int .i64 0, .int .i64 0, .int .i64 0, .int .i64 0, .string ⟨#[]⟩, .bool false, .string ⟨#[]⟩, .int .i64 0, .string ⟨#[]⟩, .slice none 0 0] 31))
    have hZ := blk_new (w.alloc (.cells #[.int .i64 x.f0, .int .i64 x.f1, .int .i64 x.f2.f0, .int .i64 x.f2.f1, .string x.f2.f2, .bool x.f2.f3, .string x.f3, .int .i64 x.f4, .string x.f5, .slice A x.f6.length c] 31)) (.cells #[.int .i64 0, .int .i64 0, .int .i64 0, .int .i64 0, .string ⟨#[]⟩, .bool false, .string ⟨#[]⟩, .int .i64 0, .string ⟨#[]⟩, .slice none 0 0] 31)
    have HS2 := Lib.hid (show ((w.alloc (.cells #[.int .i64 x.f0, .int .i64 x.f1, .int .i64 x.f2.f0, .int .i64 x.f2.f1, .string x.f2.f2, .bool x.f2.f3, .string x.f3, .int .i64 x.f4, .string x.f5, .slice A x.f6.length c] 31)).alloc (.cells #[.int .i64 0, .int .i64 0, .int .i64 0, .int .i64 0, .string ⟨#[]⟩, .bool false, .string ⟨#[]⟩, .int .i64 0, .string ⟨#[]⟩, .slice none 0 0] 31)).heap.size = w.heap.size + 2 by rw [alloc_size', alloc_size'])
    rw [alloc_size'] at hZ
    have HC := Lib.hid (Kd.C_below hC hb2)
    clear hC
    unfold exV
    go_enter Try.func61, Try.ntmps61
    go_wp2_with fail
    generalize (w.alloc (.cells #[.int .i64 x.f0, .int .i64 x.f1, .int .i64 x.f2.f0, .int .i64 x.f2.f1, .string x.f2.f2, .bool x.f2.f3, .string x.f3, .int .i64 x.f4, .string x.f5, .slice A x.f6.length c] 31)).alloc (.cells #[.int .i64 0, .int .i64 0, .int .i64 0, .int .i64 0, .string ⟨#[]⟩, .bool false, .string ⟨#[]⟩, .int .i64 0, .string ⟨#[]⟩, .slice none 0 0] 31) = W1 at *
    go_loopw [3, 9] (fun t3 t9 wr => ∃ k : Nat, k ≤ x.f6.length ∧ t9 = .int .i64 k ∧ Below W1.heap.size W1 wr ∧ Hid (kEx.R 31 wr W1.heap.size (fun _ => True) t3 (x.f6.take k))) (fun _ t9 _ => x.f6.length - (intOf t9).toNat)
    case atStart => exact ⟨0, by omega, rfl, Below.refl _ _, Lib.hid (Kd.R_nil _ _ _ _ _)⟩
    case round =>
      obtain ⟨k, hk, rfl, hB, hO⟩ := hrel
      have hsz := hB.size
      by_cases hlt : k < x.f6.length
      · have i1 : (0 : Int) ≤ (k : Int) := by omega
        have i2 : (k : Int) < x.f6.length := by omega
        have hat := atEx HC.out k i1 i2
        simp only [Int.toNat_natCast] at hat
        obtain ⟨ad, B9, b9, rfl, e0, e1, e2, e3, e4, e5, e6, e7, e8, e9, hl9, hi9⟩ := hat
        have e0 := pw_cell_below hB e0
        have e1 := pw_cell_below hB e1
        have e2 := pw_cell_below hB e2
        have e3 := pw_cell_below hB e3
        have e4 := pw_cell_below hB e4
        have e5 := pw_cell_below hB e5
        have e6 := pw_cell_below hB e6
        have e7 := pw_cell_below hB e7
        have e8 := pw_cell_below hB e8
        have e9 := pw_cell_below hB e9
        have HR := Lib.hid (rdEx_get x.f6 k hlt)
        generalize rdEx x.f6 k = y at *
        have HL := Lib.hid hl9
        have HI := Lib.hid hi9
        clear hl9 hi9
        have HT := Lib.hid (show x.f6.take (k + 1) = x.f6.take k ++ [y] by rw [List.take_succ_eq_append_getElem hlt, HR.out])
        have hxl : (x.f6.take k).length ≤ 100000000000 := by
          rw [List.length_take]
          have : x.f6.length ≤ exNL x.f6 := by
            have : ∀ l : List Ex, l.length ≤ exNL l := by
              intro l
              induction l with
              | nil => simp
              | cons a l ih => simp only [List.length_cons, exNL]; have := exN_eq a; omega
            exact this _
          omega
        generalize hxs : x.f6.take k = xs at *
        go_wp2_with fail
        have hyN : exN y ≤ exNL x.f6 := by rw [HR.out]; exact exN_get _ _ hlt
        refine (ih y B9 b9 _ (by omega) (by omega) HL.out (Kd.C_below (Kd.C_below HI.out hB) (below_new _ _))).mono ?_
        rintro e W2 ⟨hb1, v1, rfl, hr1⟩
        have hO1 := Kd.R_below (Kd.R_below hO.out (below_new _ _)) hb1
        have hr2 := Kd.R_lower (Kd.R_newR hr1 (Kd.R_below hO.out (below_new _ _))) (below_step hB (below_new _ _)).size
        have hB1 := below_step (below_step hB (below_new _ _)) hb1
        have hM := kEx_mkM W2 W1.heap.size _ y hr2
        have hO := Lib.hid hO1
        have HM := Lib.hid hM
        have hle : (xs.length + 1) * 120 ≤ 140737488355328 := by omega
        clear hO1 hM hr1 hr2 hb1 hyN hxs
        unfold exV
        go_wp2_with (at_builtin; go_must (refine Kd.R_append kEx (w0 := W1) (W := W2) W1.heap.size (by rfl) _ _ 24 31 _ 120 (by rfl) Try.underlying24 infoEx (by rfl) (by decide) (by omega) u3 xs y _ (fun _ => True) _ (by rfl) (by rfl) HM.out (fun _ h => h) (fun _ _ => trivial) hO.out hB1 hB1.size hle ?_))
        intro v2 w2 hR2 hB2 _ _
        go_wp2_with fail
        go_roundw
        case rel => exact ⟨k + 1, by omega, by go_num, hB2, Lib.hid (by rw [HT.out]; exact hR2)⟩
        case measure => simp [intOf]; omega
      · have h := hO.out
        rw [List.take_of_length_le (by omega)] at h
        obtain ⟨Ao, co, rfl⟩ := Kd.R_slice h
        have HO := Lib.hid h
        have hX2 := blk_below hX hB
        have hZ2 := blk_below hZ hB
        have y0 := (blk_cell hX2 0).trans rfl
        have y1 := (blk_cell hX2 1).trans rfl
        have y2 := (blk_cell hX2 2).trans rfl
        have y3 := (blk_cell hX2 3).trans rfl
        have y4 := (blk_cell hX2 4).trans rfl
        have y5 := (blk_cell hX2 5).trans rfl
        have y6 := (blk_cell hX2 6).trans rfl
        have y7 := (blk_cell hX2 7).trans rfl
        have y8 := (blk_cell hX2 8).trans rfl
        have y9 := (blk_cell hX2 9).trans rfl
        have z0 := (blk_cell hZ2 0).trans rfl
        have z1 := (blk_cell hZ2 1).trans rfl
        have z2 := (blk_cell hZ2 2).trans rfl
        have z3 := (blk_cell hZ2 3).trans rfl
        have z4 := (blk_cell hZ2 4).trans rfl
        have z5 := (blk_cell hZ2 5).trans rfl
        have z6 := (blk_cell hZ2 6).trans rfl
        have z7 := (blk_cell hZ2 7).trans rfl
        have z8 := (blk_cell hZ2 8).trans rfl
        have z9 := (blk_cell hZ2 9).trans rfl
        have f1 := blk_frozen hX2
        have f2 := blk_frozen hZ2
        go_wp2_with fail
        have HRK := Kd.R_mono (Kd.R_bound HO.out) (ok' := fun k => True ∧ w.heap.size + 2 ≤ k) (fun k hk => ⟨trivial, by have := hk.2.1; have := HS2.out; omega⟩)
        have HF := blk_far hZ2 (p := ⟨w.heap.size, 9, none⟩) (by show w.heap.size + 1 ≠ w.heap.size; omega) (.slice Ao x.f6.length co)
        have HRK2 := Kd.R_far (p := ⟨w.heap.size, 9, none⟩) HRK (fun k hk => by show k ≠ w.heap.size; have := hk.2; omega) (.slice Ao x.f6.length co)
        have HB2 := below_set (g := w.heap.size) (j := 9) (v := .slice Ao x.f6.length co) (below_step hb2 hB) (Nat.le_refl _)
        clear HRK
        generalize wr.setCell ⟨w.heap.size, 9, none⟩ (.slice Ao x.f6.length co) = W4 at *
        refine bodyPost_ret (results_cell_row rfl _ _ (w.heap.size + 1) 31 #[.int .i64 x.f0, .int .i64 x.f1, .int .i64 x.f2.f0, .int .i64 x.f2.f1, .string x.f2.f2, .bool x.f2.f3, .string x.f3, .int .i64 x.f4, .string x.f5, .slice Ao x.f6.length co] (0, 0) _ rfl (blk_set10 HF _ _ _ _ _ _ _ _ _ _) Try.underlying31 rfl (by kernel_rfl)) rfl ?_
        exact ⟨below_set10 HB2 (Nat.le_succ _) _ _ _ _ _ _ _ _ _ _, _, rfl, Kd.R_mono (Kd.R_lower (R_far10 HRK2 (w.heap.size + 1) (fun k hk => by have := hk.2; omega) _ _ _ _ _ _ _ _ _ _) (by have := HS2.out; omega)) (fun _ _ => trivial)⟩
end Go.Proofs.Ytgnifglolbfamaa
