/- Texts of the claim, merged in build order: PlN, PlO, PlP, PlQ. -/
import Derived.Test.YtgnifglolbfamaaZAD
import Derived.StillTailTactics
import Derived.Deep.OwnRows
/- The walk of place.own: an expression in new memory. -/
set_option linter.unusedVariables false
set_option linter.unusedSimpArgs false
namespace Go.Proofs.Ytgnifglolbfamaa
open Go.RowKit Go.Proofs.YtgnifglolbfamaaW.PrintWords

theorem blk_set10 {w : World} {g : Nat} {t : TypeId} {a0 a1 a2 a3 a4 a5 a6 a7 a8 a9 : Value} (h : w.heap[g]? = some (.cells #[a0, a1, a2, a3, a4, a5, a6, a7, a8, a9] t (0, 0))) (v0 v1 v2 v3 v4 v5 v6 v7 v8 v9 : Value) : ((((((((((w.setCell ⟨g, 0, none⟩ v0).setCell ⟨g, 1, none⟩ v1).setCell ⟨g, 2, none⟩ v2).setCell ⟨g, 3, none⟩ v3).setCell ⟨g, 4, none⟩ v4).setCell ⟨g, 5, none⟩ v5).setCell ⟨g, 6, none⟩ v6).setCell ⟨g, 7, none⟩ v7).setCell ⟨g, 8, none⟩ v8).setCell ⟨g, 9, none⟩ v9).heap[g]? = some (.cells #[v0, v1, v2, v3, v4, v5, v6, v7, v8, v9] t (0, 0)) :=
  (blk_put (cs' := #[v0, v1, v2, v3, v4, v5, v6, v7, v8, v9]) (blk_put (cs' := #[v0, v1, v2, v3, v4, v5, v6, v7, v8, a9]) (blk_put (cs' := #[v0, v1, v2, v3, v4, v5, v6, v7, a8, a9]) (blk_put (cs' := #[v0, v1, v2, v3, v4, v5, v6, a7, a8, a9]) (blk_put (cs' := #[v0, v1, v2, v3, v4, v5, a6, a7, a8, a9]) (blk_put (cs' := #[v0, v1, v2, v3, v4, a5, a6, a7, a8, a9]) (blk_put (cs' := #[v0, v1, v2, v3, a4, a5, a6, a7, a8, a9]) (blk_put (cs' := #[v0, v1, v2, a3, a4, a5, a6, a7, a8, a9]) (blk_put (cs' := #[v0, v1, a2, a3, a4, a5, a6, a7, a8, a9]) (blk_put (cs' := #[v0, a1, a2, a3, a4, a5, a6, a7, a8, a9]) h 0 v0 rfl) 1 v1 rfl) 2 v2 rfl) 3 v3 rfl) 4 v4 rfl) 5 v5 rfl) 6 v6 rfl) 7 v7 rfl) 8 v8 rfl) 9 v9 rfl)
theorem R_far10 {α : Type} {d : Kd α} {e base : Nat} {w : World} {ok : Nat → Prop} {v : Value} {xs : List α} (h : d.R e w base ok v xs) (g : Nat) (hg : ∀ k, ok k → k ≠ g) (v0 v1 v2 v3 v4 v5 v6 v7 v8 v9 : Value) : d.R e ((((((((((w.setCell ⟨g, 0, none⟩ v0).setCell ⟨g, 1, none⟩ v1).setCell ⟨g, 2, none⟩ v2).setCell ⟨g, 3, none⟩ v3).setCell ⟨g, 4, none⟩ v4).setCell ⟨g, 5, none⟩ v5).setCell ⟨g, 6, none⟩ v6).setCell ⟨g, 7, none⟩ v7).setCell ⟨g, 8, none⟩ v8).setCell ⟨g, 9, none⟩ v9) base ok v xs :=
  (Kd.R_far (p := ⟨g, 9, none⟩) (Kd.R_far (p := ⟨g, 8, none⟩) (Kd.R_far (p := ⟨g, 7, none⟩) (Kd.R_far (p := ⟨g, 6, none⟩) (Kd.R_far (p := ⟨g, 5, none⟩) (Kd.R_far (p := ⟨g, 4, none⟩) (Kd.R_far (p := ⟨g, 3, none⟩) (Kd.R_far (p := ⟨g, 2, none⟩) (Kd.R_far (p := ⟨g, 1, none⟩) (Kd.R_far (p := ⟨g, 0, none⟩) h hg v0) hg v1) hg v2) hg v3) hg v4) hg v5) hg v6) hg v7) hg v8) hg v9)
theorem below_set10 {w0 w : World} {g : Nat} (h : Below w0.heap.size w0 w) (hg : w0.heap.size ≤ g) (v0 v1 v2 v3 v4 v5 v6 v7 v8 v9 : Value) : Below w0.heap.size w0 ((((((((((w.setCell ⟨g, 0, none⟩ v0).setCell ⟨g, 1, none⟩ v1).setCell ⟨g, 2, none⟩ v2).setCell ⟨g, 3, none⟩ v3).setCell ⟨g, 4, none⟩ v4).setCell ⟨g, 5, none⟩ v5).setCell ⟨g, 6, none⟩ v6).setCell ⟨g, 7, none⟩ v7).setCell ⟨g, 8, none⟩ v8).setCell ⟨g, 9, none⟩ v9) :=
  (below_set (below_set (below_set (below_set (below_set (below_set (below_set (below_set (below_set (below_set h hg) hg) hg) hg) hg) hg) hg) hg) hg) hg)
def OwnPost (x : Ex) (w : World) (e : Ending) (w' : World) : Prop := Below w.heap.size w w' ∧ ∃ v, e = .returned (exV x v) ∧ kEx.R 31 w' w.heap.size (fun _ => True) v x.f6

set_option maxHeartbeats 2000000 in
set_option maxRecDepth 100000 in
theorem own_any : ∀ (m : Nat) (x : Ex) (A : Option Addr) (c : Nat) (w : World), exN x ≤ m → exN x ≤ 100000000000 → x.f6.length ≤ c → kEx.C w A x.f6.length x.f6 →
    Calls Try.prog 61 #[exV x (.slice A x.f6.length c)] w (OwnPost x w) := by
  intro m
  induction m with
  | zero => intro x A c w h; rw [exN_eq] at h; omega
  | succ m ih =>
    intro x A c w hm hN hc hC
    rw [exN_eq] at hm hN
    have hmx := hC.2.1
    have h1 := below_new w (.cells #[.int .i64 x.f0, .int .i64 x.f1, .int .i64 x.f2.f0, .int .i64 x.f2.f1, .string x.f2.f2, .bool x.f2.f3, .string x.f3, .int .i64 x.f4, .string x.f5, .slice A x.f6.length c] 31)
    have hb2 := below_step h1 (below_new _ (.cells #[.int .i64 0, .int .i64 0, .int .i64 0, .int .i64 0, .string ⟨#[]⟩, .bool false, .string ⟨#[]⟩, .int .i64 0, .string ⟨#[]⟩, .slice none 0 0] 31))
    have hX := blk_new1 w (.cells #[.int .i64 x.f0, .int .i64 x.f1, .int .i64 x.f2.f0, .int .i64 x.f2.f1, .string x.f2.f2, .bool x.f2.f3, .string x.f3, .int .i64 x.f4, .string x.f5, .slice A x.f6.length c] 31) (.cells #[.int .i64 0, .int .i64 0, .int .i64 0, .int .i64 0, .string ⟨#[]⟩, .bool false, .string ⟨#[]⟩, .int .i64 0, .string ⟨#[]⟩, .slice none 0 0] 31)
    have hX := blk_below (blk_new w (.cells #[.int .i64 x.f0, .int .i64 x.f1, .int .i64 x.f2.f0, .int .i64 x.f2.f1, .string x.f2.f2, .bool x.f2.f3, .string x.f3, .int .i64 x.f4, .string x.f5, .slice A x.f6.length c] 31)) (below_new _ (.cells #[.int .i64 0, .int .i64 0, .int .i64 0, .int .i64 0, .string ⟨#[]⟩, .bool false, .string ⟨#[]⟩, .int .i64 0, .string ⟨#[]⟩, .slice none 0 0] 31))
    have hZ := blk_new (w.alloc (.cells #[.int .i64 x.f0, .int .i64 x.f1, .int .i64 x.f2.f0, .int .i64 x.f2.f1, .string x.f2.f2, .bool x.f2.f3, .string x.f3, .int .i64 x.f4, .string x.f5, .slice A x.f6.length c] 31)) (.cells #[.int .i64 0, .int .i64 0, .int .i64 0, .int .i64 0, .string ⟨#[]⟩, .bool false, .string ⟨#[]⟩, .int .i64 0, .string ⟨#[]⟩, .slice none 0 0] 31)
    have HS2 := Lib.hid (show ((w.alloc (.cells #[.int .i64 x.f0, .int .i64 x.f1, .int .i64 x.f2.f0, .int .i64 x.f2.f1, .string x.f2.f2, .bool x.f2.f3, .string x.f3, .int .i64 x.f4, .string x.f5, .slice A x.f6.length c] 31)).alloc (.cells #[.int .i64 0, .int .i64 0, .int .i64 0, .int .i64 0, .string ⟨#[]⟩, .bool false, .string ⟨#[]⟩, .int .i64 0, .string ⟨#[]⟩, .slice none 0 0] 31)).heap.size = w.heap.size + 2 by rw [alloc_size', alloc_size'])
    rw [alloc_size'] at hZ
    have HC := Lib.hid (Kd.C_below hC hb2)
    clear hC
    unfold exV
    go_enter Try.func61, Try.ntmps61
    go_wp2_with fail
    generalize (w.alloc (.cells #[.int .i64 x.f0, .int .i64 x.f1, .int .i64 x.f2.f0, .int .i64 x.f2.f1, .string x.f2.f2, .bool x.f2.f3, .string x.f3, .int .i64 x.f4, .string x.f5, .slice A x.f6.length c] 31)).alloc (.cells #[.int .i64 0, .int .i64 0, .int .i64 0, .int .i64 0, .string ⟨#[]⟩, .bool false, .string ⟨#[]⟩, .int .i64 0, .string ⟨#[]⟩, .slice none 0 0] 31) = W1 at *
    go_loopw [3, 9] (fun t3 t9 wr => ∃ k : Nat, k ≤ x.f6.length ∧ t9 = .int .i64 k ∧ Below W1.heap.size W1 wr ∧ Hid (kEx.R 31 wr W1.heap.size (fun _ => True) t3 (x.f6.take k))) (fun _ t9 _ => x.f6.length - (intOf t9).toNat)
    case atStart => exact ⟨0, by omega, rfl, Below.refl _ _, Lib.hid (Kd.R_nil _ _ _ _ _)⟩
    case round =>
      obtain ⟨k, hk, rfl, hB, hO⟩ := hrel
      have hsz := hB.size
      by_cases hlt : k < x.f6.length
      · have i1 : (0 : Int) ≤ (k : Int) := by omega
        have i2 : (k : Int) < x.f6.length := by omega
        have hat := atEx HC.out k i1 i2
        simp only [Int.toNat_natCast] at hat
        obtain ⟨ad, B9, b9, rfl, e0, e1, e2, e3, e4, e5, e6, e7, e8, e9, hl9, hi9⟩ := hat
        have e0 := pw_cell_below hB e0
        have e1 := pw_cell_below hB e1
        have e2 := pw_cell_below hB e2
        have e3 := pw_cell_below hB e3
        have e4 := pw_cell_below hB e4
        have e5 := pw_cell_below hB e5
        have e6 := pw_cell_below hB e6
        have e7 := pw_cell_below hB e7
        have e8 := pw_cell_below hB e8
        have e9 := pw_cell_below hB e9
        have HR := Lib.hid (rdEx_get x.f6 k hlt)
        generalize rdEx x.f6 k = y at *
        have HL := Lib.hid hl9
        have HI := Lib.hid hi9
        clear hl9 hi9
        have HT := Lib.hid (show x.f6.take (k + 1) = x.f6.take k ++ [y] by rw [List.take_succ_eq_append_getElem hlt, HR.out])
        have hxl : (x.f6.take k).length ≤ 100000000000 := by
          rw [List.length_take]
          have : x.f6.length ≤ exNL x.f6 := by
            have : ∀ l : List Ex, l.length ≤ exNL l := by
              intro l
              induction l with
              | nil => simp
              | cons a l ih => simp only [List.length_cons, exNL]; have := exN_eq a; omega
            exact this _
          omega
        generalize hxs : x.f6.take k = xs at *
        go_wp2_with fail
        have hyN : exN y ≤ exNL x.f6 := by rw [HR.out]; exact exN_get _ _ hlt
        refine (ih y B9 b9 _ (by omega) (by omega) HL.out (Kd.C_below (Kd.C_below HI.out hB) (below_new _ _))).mono ?_
        rintro e W2 ⟨hb1, v1, rfl, hr1⟩
        have hO1 := Kd.R_below (Kd.R_below hO.out (below_new _ _)) hb1
        have hr2 := Kd.R_lower (Kd.R_newR hr1 (Kd.R_below hO.out (below_new _ _))) (below_step hB (below_new _ _)).size
        have hB1 := below_step (below_step hB (below_new _ _)) hb1
        have hM := kEx_mkM W2 W1.heap.size _ y hr2
        have hO := Lib.hid hO1
        have HM := Lib.hid hM
        have hle : (xs.length + 1) * 120 ≤ 140737488355328 := by omega
        clear hO1 hM hr1 hr2 hb1 hyN hxs
        unfold exV
        go_wp2_with (at_builtin; go_must (refine Kd.R_append kEx (w0 := W1) (W := W2) W1.heap.size (by rfl) _ _ 24 31 _ 120 (by rfl) Try.underlying24 infoEx (by rfl) (by decide) (by omega) u3 xs y _ (fun _ => True) _ (by rfl) (by rfl) HM.out (fun _ h => h) (fun _ _ => trivial) hO.out hB1 hB1.size hle ?_))
        intro v2 w2 hR2 hB2 _ _
        go_wp2_with fail
        go_roundw
        case rel => exact ⟨k + 1, by omega, by go_num, hB2, Lib.hid (by rw [HT.out]; exact hR2)⟩
        case measure => simp [intOf]; omega
      · have h := hO.out
        rw [List.take_of_length_le (by omega)] at h
        obtain ⟨Ao, co, rfl⟩ := Kd.R_slice h
        have HO := Lib.hid h
        have hX2 := blk_below hX hB
        have hZ2 := blk_below hZ hB
        have y0 := (blk_cell hX2 0).trans rfl
        have y1 := (blk_cell hX2 1).trans rfl
        have y2 := (blk_cell hX2 2).trans rfl
        have y3 := (blk_cell hX2 3).trans rfl
        have y4 := (blk_cell hX2 4).trans rfl
        have y5 := (blk_cell hX2 5).trans rfl
        have y6 := (blk_cell hX2 6).trans rfl
        have y7 := (blk_cell hX2 7).trans rfl
        have y8 := (blk_cell hX2 8).trans rfl
        have y9 := (blk_cell hX2 9).trans rfl
        have z0 := (blk_cell hZ2 0).trans rfl
        have z1 := (blk_cell hZ2 1).trans rfl
        have z2 := (blk_cell hZ2 2).trans rfl
        have z3 := (blk_cell hZ2 3).trans rfl
        have z4 := (blk_cell hZ2 4).trans rfl
        have z5 := (blk_cell hZ2 5).trans rfl
        have z6 := (blk_cell hZ2 6).trans rfl
        have z7 := (blk_cell hZ2 7).trans rfl
        have z8 := (blk_cell hZ2 8).trans rfl
        have z9 := (blk_cell hZ2 9).trans rfl
        have f1 := blk_frozen hX2
        have f2 := blk_frozen hZ2
        go_wp2_with fail
        have HRK := Kd.R_mono (Kd.R_bound HO.out) (ok' := fun k => True ∧ w.heap.size + 2 ≤ k) (fun k hk => ⟨trivial, by have := hk.2.1; have := HS2.out; omega⟩)
        have HF := blk_far hZ2 (p := ⟨w.heap.size, 9, none⟩) (by show w.heap.size + 1 ≠ w.heap.size; omega) (.slice Ao x.f6.length co)
        have HRK2 := Kd.R_far (p := ⟨w.heap.size, 9, none⟩) HRK (fun k hk => by show k ≠ w.heap.size; have := hk.2; omega) (.slice Ao x.f6.length co)
        have HB2 := below_set (g := w.heap.size) (j := 9) (v := .slice Ao x.f6.length co) (below_step hb2 hB) (Nat.le_refl _)
        clear HRK
        generalize wr.setCell ⟨w.heap.size, 9, none⟩ (.slice Ao x.f6.length co) = W4 at *
        refine bodyPost_ret (results_cell_row rfl _ _ (w.heap.size + 1) 31 #[.int .i64 x.f0, .int .i64 x.f1, .int .i64 x.f2.f0, .int .i64 x.f2.f1, .string x.f2.f2, .bool x.f2.f3, .string x.f3, .int .i64 x.f4, .string x.f5, .slice Ao x.f6.length co] (0, 0) _ rfl (blk_set10 HF _ _ _ _ _ _ _ _ _ _) Try.underlying31 rfl (by kernel_rfl)) rfl ?_
        exact ⟨below_set10 HB2 (Nat.le_succ _) _ _ _ _ _ _ _ _ _ _, _, rfl, Kd.R_mono (Kd.R_lower (R_far10 HRK2 (w.heap.size + 1) (fun k hk => by have := hk.2; omega) _ _ _ _ _ _ _ _ _ _) (by have := HS2.out; omega)) (fun _ _ => trivial)⟩
end Go.Proofs.Ytgnifglolbfamaa

/- The law's own words: ref, bound. -/
set_option linter.unusedVariables false
set_option linter.unusedSimpArgs false
namespace Go.Proofs.Ytgnifglolbfamaa
open Go.RowKit Go.Proofs.YtgnifglolbfamaaW.PrintWords

/-- A reference, as the law makes it. -/
def refX (v : ByteArray) (at_ : Int) : Ex := ⟨2, 0, zVal, v, at_, ⟨#[120]⟩, []⟩

set_option maxHeartbeats 2000000 in
set_option maxRecDepth 100000 in
theorem ref_any (v : ByteArray) (n : Int) (w : World) :
    Calls Try.prog 36 #[.string v, .int .i64 n] w fun e w' => e = .returned (exV (refX v n) (.slice none 0 0)) ∧ Below w.heap.size w w' := by
  go_enter Try.func36, Try.ntmps36
  go_wp2_with fail
  refine bodyPost_ret (results_cell_row rfl _ _ w.heap.size 31 #[.int .i64 2, .int .i64 0, .int .i64 0, .int .i64 0, .string ⟨#[]⟩, .bool false, .string v, .int .i64 n, .string ⟨#[120]⟩, .slice none 0 0] (0, 0) _ rfl (blk_new w _) Try.underlying31 rfl (by kernel_rfl)) rfl ?_
  exact ⟨rfl, below_new _ _⟩

def boundB (cs : List Cp) (r : Rf) (mom : Int) : Bool := decide (2 * (stg (cs.take ((vix cs r.f0.data.toList).getD (-1)).toNat) : Int) + (if (r.f1 == 5 || r.f1 == 6) then 1 else 0) ≤ mom)

set_option maxHeartbeats 2000000 in
set_option maxRecDepth 100000 in
theorem bound_any (cs : List Cp) (A : Option Addr) (c : Nat) (q1 : ByteArray) (q2 : Int) (v3 v4 : Value) (q5 : Int) (q6 : ByteArray) (v7 : Value) (h3 : v3.oneCell' = true) (h4 : v4.oneCell' = true) (h7 : v7.oneCell' = true) (r : Rf) (mom : Int) (w : World)
    (hv : (vix cs r.f0.data.toList).isSome = true) (hlen : cs.length ≤ 8) (hC : kCp.C w A cs.length cs) :
    Calls Try.prog 15 #[.agg #[.slice A cs.length c, .string q1, .int .i64 q2, v3, v4, .int .i64 q5, .string q6, v7], .agg #[.string r.f0, .int .i64 r.f1, .string r.f2, .int .i64 r.f3], .int .i64 mom] w fun e w' => e = .returned (.bool (boundB cs r mom)) ∧ Below w.heap.size w w' := by
  obtain ⟨i, hi⟩ := Option.isSome_iff_exists.1 hv
  obtain ⟨hi0, hi1⟩ := vix_bound _ _ _ hi
  obtain ⟨j, rfl⟩ := Int.eq_ofNat_of_zero_le hi0
  have hb2 := below_step (below_new w (.cells #[.slice A cs.length c, .string q1, .int .i64 q2, v3, v4, .int .i64 q5, .string q6, v7] 27)) (below_new _ (.cells #[.string r.f0, .int .i64 r.f1, .string r.f2, .int .i64 r.f3] 42))
  have hQ := blk_below (blk_new w (.cells #[.slice A cs.length c, .string q1, .int .i64 q2, v3, v4, .int .i64 q5, .string q6, v7] 27)) (below_new _ (.cells #[.string r.f0, .int .i64 r.f1, .string r.f2, .int .i64 r.f3] 42))
  have hR := blk_new (w.alloc (.cells #[.slice A cs.length c, .string q1, .int .i64 q2, v3, v4, .int .i64 q5, .string q6, v7] 27)) (.cells #[.string r.f0, .int .i64 r.f1, .string r.f2, .int .i64 r.f3] 42)
  rw [alloc_size'] at hR
  have hcomp := fun W hC => comp_any cs A c q1 q2 v3 v4 q5 q6 v7 h3 h4 h7 r.f0 W hC
  have hstage := fun W hC => stage_any cs A c q1 q2 v3 v4 q5 q6 v7 h3 h4 h7 j (by omega) W hC
  have hCW := Kd.C_below hC hb2
  obtain ⟨res, hres⟩ : ∃ res, res = boundB cs r mom := ⟨_, rfl⟩
  rw [← hres]
  replace hres : res = true ↔ 2 * (stg (cs.take ((vix cs r.f0.data.toList).getD (-1)).toNat) : Int) + (if (r.f1 == 5 || r.f1 == 6) then 1 else 0) ≤ mom := by rw [hres]; exact decide_eq_true_iff
  rw [hi] at hcomp hres
  simp only [Option.getD_some] at hcomp hres
  simp only [Int.toNat_natCast] at hres
  have hst : stg (cs.take j) ≤ 8 := by
    have h1 : ∀ l : List Cp, stg l ≤ l.length := by
      intro l
      induction l with
      | nil => simp [stg]
      | cons a l ih => cases h : a.f0 <;> simp [stg, h] <;> omega
    have := h1 (cs.take j)
    rw [List.length_take] at this
    omega
  obtain ⟨s, hs⟩ : ∃ s, s = stg (cs.take j) := ⟨_, rfl⟩
  rw [← hs] at hst hstage hres
  have HRES := Lib.hid hres
  clear hs hres
  have HCO := Lib.hid hcomp
  have HST := Lib.hid hstage
  have HCW := Lib.hid hCW
  clear hcomp hstage hCW hC hv hi
  go_enter Try.func15, Try.ntmps15
  go_wp2_with fail
  generalize (w.alloc (.cells #[.slice A cs.length c, .string q1, .int .i64 q2, v3, v4, .int .i64 q5, .string q6, v7] 27)).alloc (.cells #[.string r.f0, .int .i64 r.f1, .string r.f2, .int .i64 r.f3] 42) = W1 at *
  have kq0 := (blk_cell hQ 0).trans rfl
  have kq1 := (blk_cell hQ 1).trans rfl
  have kq2 := (blk_cell hQ 2).trans rfl
  have kq3 := (blk_cell hQ 3).trans rfl
  have kq4 := (blk_cell hQ 4).trans rfl
  have kq5 := (blk_cell hQ 5).trans rfl
  have kq6 := (blk_cell hQ 6).trans rfl
  have kq7 := (blk_cell hQ 7).trans rfl
  have r0 := (blk_cell hR 0).trans rfl
  have r1 := (blk_cell hR 1).trans rfl
  have r2 := (blk_cell hR 2).trans rfl
  have r3 := (blk_cell hR 3).trans rfl
  have HKeep := Lib.hid (show ∀ w', Below W1.heap.size W1 w' → w'.cell? ⟨w.heap.size, 0, none⟩ = some (.slice A cs.length c) ∧ w'.cell? ⟨w.heap.size, 1, none⟩ = some (.string q1) ∧ w'.cell? ⟨w.heap.size, 2, none⟩ = some (.int .i64 q2) ∧ w'.cell? ⟨w.heap.size, 3, none⟩ = some (v3) ∧ w'.cell? ⟨w.heap.size, 4, none⟩ = some (v4) ∧ w'.cell? ⟨w.heap.size, 5, none⟩ = some (.int .i64 q5) ∧ w'.cell? ⟨w.heap.size, 6, none⟩ = some (.string q6) ∧ w'.cell? ⟨w.heap.size, 7, none⟩ = some (v7) ∧ w'.cell? ⟨w.heap.size + 1, 0, none⟩ = some (.string r.f0) from fun w' hb => ⟨pw_cell_below hb kq0, pw_cell_below hb kq1, pw_cell_below hb kq2, pw_cell_below hb kq3, pw_cell_below hb kq4, pw_cell_below hb kq5, pw_cell_below hb kq6, pw_cell_below hb kq7, pw_cell_below hb r0⟩)
  have HC13 := Lib.hid (show ∀ W, Below W1.heap.size W1 W → _ from fun W hb => HCO.out W (Kd.C_below HCW.out hb))
  have HC14 := Lib.hid (show ∀ W, Below W1.heap.size W1 W → _ from fun W hb => HST.out W (Kd.C_below HCW.out hb))
  go_region_held3 (fun w' => w'.cell? ⟨w.heap.size, 0, none⟩ = some (.slice A cs.length c) ∧ w'.cell? ⟨w.heap.size, 1, none⟩ = some (.string q1) ∧ w'.cell? ⟨w.heap.size, 2, none⟩ = some (.int .i64 q2) ∧ w'.cell? ⟨w.heap.size, 3, none⟩ = some (v3) ∧ w'.cell? ⟨w.heap.size, 4, none⟩ = some (v4) ∧ w'.cell? ⟨w.heap.size, 5, none⟩ = some (.int .i64 q5) ∧ w'.cell? ⟨w.heap.size, 6, none⟩ = some (.string q6) ∧ w'.cell? ⟨w.heap.size, 7, none⟩ = some (v7) ∧ w'.cell? ⟨w.heap.size + 1, 0, none⟩ = some (.string r.f0)) (first | exact HKeep.out _ (Below.refl _ _) | exact HKeep.out _ (below_drew (Below.refl _ _)) | exact HKeep.out _ (by assumption) | exact HKeep.out _ (below_drew (by assumption))) (first | ((go_at_call 13; refine (HC13.out _ (by first | exact below_drew (Below.refl _ _) | assumption)).mono ?_; rintro e w5 ⟨rfl, hb5⟩; have hbk : Below W1.heap.size W1 w5 := (by first | exact below_step (below_drew (Below.refl _ _)) hb5 | exact below_step (by assumption) hb5))) | ((go_at_call 14; refine (HC14.out _ (by first | assumption | exact below_drew (Below.refl _ _))).mono ?_; rintro e w6 ⟨rfl, hb6⟩; have hbk2 : Below W1.heap.size W1 w6 := (by first | exact below_step (by assumption) hb6 | exact below_step (below_drew (Below.refl _ _)) hb6))))
  have hR4 := blk_below hR hbk2
  have hB := below_step hb2 hbk2
  have r0 := (blk_cell hR4 0).trans rfl
  have r1 := (blk_cell hR4 1).trans rfl
  have r2 := (blk_cell hR4 2).trans rfl
  have r3 := (blk_cell hR4 3).trans rfl
  have fin : ∀ (tb : Bool) (k : Int), (r.f1 == 5 || r.f1 == 6) = tb → (if tb then 1 else 0) = k → Hid (res = decide (2 * (s : Int) + k ≤ mom)) := fun tb k h1 h2 => Lib.hid (by
    have := HRES.out
    rw [h1] at this
    subst h2
    cases tb <;> simp only [Bool.false_eq_true, if_false, if_true] at this ⊢ <;> rw [Bool.eq_iff_iff, decide_eq_true_iff] <;> exact this)
  have hcase : (∃ u : Unit, (r.f1 == 5) = true ∧ Hid (res = decide (2 * (s : Int) + 1 ≤ mom))) ∨ ((r.f1 == 5) = false ∧ (r.f1 == 6) = true ∧ Hid (res = decide (2 * (s : Int) + 1 ≤ mom))) ∨ ((r.f1 == 5) = false ∧ (r.f1 == 6) = false ∧ Hid (res = decide (2 * (s : Int) + 0 ≤ mom))) := by
    rcases Bool.eq_false_or_eq_true (r.f1 == 5) with d5 | d5
    · exact Or.inl ⟨(), d5, fin true 1 (by rw [d5]; rfl) rfl⟩
    · rcases Bool.eq_false_or_eq_true (r.f1 == 6) with d6 | d6
      · exact Or.inr (Or.inl ⟨d5, d6, fin true 1 (by rw [d5, d6]; rfl) rfl⟩)
      · exact Or.inr (Or.inr ⟨d5, d6, fin false 0 (by rw [d5, d6]; rfl) rfl⟩)
  clear fin HRES
  rcases hcase with ⟨_, d5, HRM⟩ | ⟨d5, d6, HRM⟩ | ⟨d5, d6, HRM⟩
  all_goals
    go_wp2_with fail
    go_ret
    exact ⟨by rw [HRM.out]; simp, hB⟩
end Go.Proofs.Ytgnifglolbfamaa

/- The law's own words: heavyQuery. -/
set_option linter.unusedVariables false
set_option linter.unusedSimpArgs false
namespace Go.Proofs.Ytgnifglolbfamaa
open Go.RowKit Go.Proofs.YtgnifglolbfamaaW.PrintWords

def itN : List It → Nat
  | [] => 0
  | x :: xs => exN x.f1 + itN xs
theorem itN_append : ∀ (a b : List It), itN (a ++ b) = itN a + itN b
  | [], b => by simp [itN]
  | x :: a, b => by simp only [List.cons_append, itN, itN_append a b]; omega
theorem itN_take_succ (l : List It) (k : Nat) (h : k < l.length) : itN (l.take (k + 1)) = itN (l.take k) + exN l[k].f1 := by
  rw [List.take_succ_eq_append_getElem h, itN_append]
  simp [itN]
theorem itN_take (l : List It) (k : Nat) : itN (l.take k) ≤ itN l := by
  conv => rhs; rw [← List.take_append_drop k l, itN_append]
  omega
theorem rdIt_get (l : List It) (k : Nat) (h : k < l.length) : rdIt l (k : Int) = l[k] := by
  simp [rdIt, List.getD_eq_getElem?_getD, List.getElem?_eq_getElem h]

set_option maxHeartbeats 4000000 in
set_option maxRecDepth 100000 in
theorem heavyQuery_any (v0 : Value) (q1 : ByteArray) (q2 : Int) (v3 : Value) (ws : List Ex) (AW : Option Addr) (cw : Nat) (q5 : Int) (q6 : ByteArray) (its : List It) (AI : Option Addr) (ci : Nat) (h0 : v0.oneCell' = true) (h3 : v3.oneCell' = true) (w : World)
    (hW : kEx.C w AW ws.length ws) (hI : kIt.C w AI its.length its) :
    Calls Try.prog 9 #[.agg #[v0, .string q1, .int .i64 q2, v3, .slice AW ws.length cw, .int .i64 q5, .string q6, .slice AI its.length ci]] w fun e w' => e = .returned (.bool (decide (16384 < itN its + exNL ws))) ∧ Below w.heap.size w w' := by
  obtain ⟨res, hres⟩ : ∃ res, res = decide (16384 < itN its + exNL ws) := ⟨_, rfl⟩
  rw [← hres]
  have HRES := Lib.hid hres
  have hQ := blk_new w (.cells #[v0, .string q1, .int .i64 q2, v3, .slice AW ws.length cw, .int .i64 q5, .string q6, .slice AI its.length ci] 27)
  have hb1 := below_new w (.cells #[v0, .string q1, .int .i64 q2, v3, .slice AW ws.length cw, .int .i64 q5, .string q6, .slice AI its.length ci] 27)
  have HW := Lib.hid (Kd.C_below hW hb1)
  have HI := Lib.hid (Kd.C_below hI hb1)
  have hmx := hI.2.1
  clear hW hI hres
  go_enter Try.func9, Try.ntmps9
  go_wp2_with fail
  generalize w.alloc (.cells #[v0, .string q1, .int .i64 q2, v3, .slice AW ws.length cw, .int .i64 q5, .string q6, .slice AI its.length ci] 27) = W1 at *
  go_loopw [3, 4] (fun t3 t4 wr => ∃ (k : Nat) (rm : Int), k ≤ its.length ∧ t4 = .int .i64 k ∧ t3 = .int .i64 rm ∧ -1 ≤ rm ∧ rm ≤ 1000000 ∧ Below W1.heap.size W1 wr ∧ Hid ((0 ≤ rm → rm = 16384 - itN (its.take k)) ∧ (rm < 0 → 16384 < itN (its.take k)))) (fun _ t4 _ => its.length - (intOf t4).toNat)
  case atStart => exact ⟨0, 16384, by omega, rfl, rfl, by omega, by omega, Below.refl _ _, Lib.hid (by simp [itN])⟩
  case round =>
    obtain ⟨k, rm, hk, rfl, rfl, hr0, hr1, hB, hO⟩ := hrel
    have hQ2 := blk_below hQ hB
    have z4 := (blk_cell hQ2 4).trans rfl
    have z7 := (blk_cell hQ2 7).trans rfl
    by_cases hlt : k < its.length
    · have i1 : (0 : Int) ≤ (k : Int) := by omega
      have i2 : (k : Int) < its.length := by omega
      by_cases hrm : 0 ≤ rm
      · have d1 : decide (rm ≥ 0) = true := by simpa using hrm
        have hat := atIt (Kd.C_below HI.out hB) k i1 i2
        simp only [Int.toNat_natCast] at hat
        obtain ⟨ad, B9, b9, rfl, e0, e1, e2, e3, e4, e5, e6, e7, e8, e9, e10, hl9, hi9⟩ := hat
        have hR := rdIt_get its k hlt
        have HS := Lib.hid (itN_take_succ its k hlt)
        rw [← hR] at HS
        clear hR
        generalize rdIt its k = y at *
        obtain ⟨y0, y⟩ := y
        have hcall := leftOf_any (exN y) y B9 b9 rm wr (Nat.le_refl _) hrm hr1 hi9
        have HCALL := Lib.hid hcall
        unfold exV at HCALL
        clear hcall hi9
        go_wp2_with fail
        refine HCALL.out.mono ?_
        rintro e W3 ⟨r', rfl, hL, hb3⟩
        obtain ⟨a1, a2, a3⟩ := hL.out
        obtain ⟨o1, o2⟩ := hO.out
        have h1 := o1 hrm
        have hbd : r' ≤ 1000000 := by
          rcases Int.lt_or_le r' 0 with h | h
          · omega
          · have := a1 h; omega
        have HN2 := Lib.hid (show (0 ≤ r' → r' = 16384 - itN (its.take (k + 1))) ∧ (r' < 0 → 16384 < itN (its.take (k + 1))) by
          rw [HS.out]
          exact ⟨fun h => by have := a1 h; simp; omega, fun h => by have := a2 h; simp; omega⟩)
        clear a1 a2 o1 o2 h1
        go_wp2_with fail
        go_roundw
        case rel => exact ⟨k + 1, r', by omega, by go_num, rfl, a3, hbd, below_step hB hb3, HN2⟩
        case measure => simp [intOf]; omega
      · have d1 : decide (rm ≥ 0) = false := by simpa using hrm
        have d2 : decide (rm < 0) = true := by simp; omega
        have ht := itN_take its k
        have h2 := hO.out.2 (by omega)
        have HE := Lib.hid (show res = true by rw [HRES.out]; simp; omega)
        go_wp2_with fail
        go_ret
        exact ⟨by rw [HE.out]; rfl, below_step hb1 hB⟩
    · have hO2 := hO.out
      rw [List.take_of_length_le (by omega)] at hO2
      rcases Int.lt_or_le rm 0 with h | h
      · have d2 : decide (rm < 0) = true := by simpa using h
        have h2 := hO2.2 h
        have HE := Lib.hid (show res = true by rw [HRES.out]; simp; omega)
        clear h2 hO2 hO
        go_wp2_with fail
        go_ret
        exact ⟨by rw [HE.out]; rfl, below_step hb1 hB⟩
      · have d2 : decide (rm < 0) = false := by simp; omega
        have h2 := hO2.1 h
        have HE := Lib.hid (show res = decide (rm < exNL ws) by rw [HRES.out]; simp; omega)
        have HCALL := Lib.hid (heavy_any ws AW cw rm wr h hr1 (Kd.C_below HW.out hB))
        clear h2 hO2 hO
        go_wp2_with fail
        refine HCALL.out.mono ?_
        rintro e W3 ⟨rfl, hb3⟩
        go_wp2_with fail
        go_ret
        exact ⟨by rw [HE.out]; rfl, below_step (below_step hb1 hB) hb3⟩
end Go.Proofs.Ytgnifglolbfamaa

/- The stages without conditions: how they lie in memory while place.layoutOf makes them. -/
set_option linter.unusedVariables false
set_option linter.unusedSimpArgs false
namespace Go.Proofs.Ytgnifglolbfamaa
open Go.RowKit Go.Proofs.YtgnifglolbfamaaW.PrintWords

theorem infoSg : (Try.prog.info? 71).map (fun i => (i.zero, i.size, i.bytes)) = some (some (.agg #[.string ⟨#[]⟩, .string ⟨#[]⟩, .bool false, .slice none 0 0, .slice none 0 0, .slice none 0 0, .slice none 0 0]), 7, 136) := by kernel_rfl
theorem infoNp : (Try.prog.info? 132).map (fun i => (i.zero, i.size, i.bytes)) = some (some (.pointer none), 1, 8) := by kernel_rfl
theorem infoNg : (Try.prog.info? 73).map (fun i => (i.zero, i.size, i.bytes)) = some (some (.agg #[.string ⟨#[]⟩, .string ⟨#[]⟩, .slice none 0 0]), 3, 56) := by kernel_rfl
def z7 : Array Value := #[.string ⟨#[]⟩, .string ⟨#[]⟩, .bool false, .slice none 0 0, .slice none 0 0, .slice none 0 0, .slice none 0 0]
theorem make_sg (n : Nat) (hn : n ≤ 1000000) (W : World) : (Instr.makeSlice 52 (.int .i64 (n : Int)) (.int .i64 (n : Int))).run Try.prog W = .ok (.slice (some ⟨W.heap.size, 0, none⟩) n n) (W.alloc (.cells (madeCells z7 (n * 7)) 71)) := by
  obtain ⟨i, hi, hzz⟩ := Option.map_eq_some_iff.1 infoSg
  simp only [Prod.mk.injEq] at hzz
  obtain ⟨hz, hs, hb⟩ := hzz
  have hr := run_make (P := Try.prog) W 52 71 i _ Try.underlying52 hi hz .i64 .i64 n n (by omega) (by omega) (by rw [hb]; omega) (by omega)
  simp only [Int.toNat_natCast, hs] at hr
  exact hr
theorem make_np (n : Nat) (hn : n ≤ 1000000) (W : World) : (Instr.makeSlice 100 (.int .i64 (n : Int)) (.int .i64 (n : Int))).run Try.prog W = .ok (.slice (some ⟨W.heap.size, 0, none⟩) n n) (W.alloc (.cells (madeCells #[.pointer none] n) 132)) :=
  run_make_row' 100 132 _ 8 Try.underlying100 infoNp rfl .i64 .i64 n (by omega) (by omega) W
theorem make_int (n : Nat) (hn : n ≤ 1000000) (W : World) : (Instr.makeSlice 59 (.int .i64 (n : Int)) (.int .i64 (n : Int))).run Try.prog W = .ok (.slice (some ⟨W.heap.size, 0, none⟩) n n) (W.alloc (.cells (madeCells #[.int .i64 0] n) 3)) :=
  run_make_row' 59 3 _ 8 Try.underlying59 infoInt rfl .i64 .i64 n (by omega) (by omega) W

/-! the components by their places -/
def cpA (cs : List Cp) (i : Nat) : Cp := cs.getD i zCp
def negB (cs : List Cp) (i : Nat) : Bool := (cpA cs i).f0
def stA (cs : List Cp) (i : Nat) : Nat := stg (cs.take i)
/-- The negated ones ahead of stage s, among the first k components. -/
def ngI (cs : List Cp) (k s : Nat) : List Nat := (List.range k).filter (fun i => negB cs i && stA cs i == s)
theorem ngI_succ (cs : List Cp) (k s : Nat) : ngI cs (k + 1) s = ngI cs k s ++ if negB cs k && stA cs k == s then [k] else [] := by
  unfold ngI
  rw [List.range_succ, List.filter_append, List.filter_cons, List.filter_nil]
theorem ngI_lt {cs : List Cp} {k s i : Nat} (h : i ∈ ngI cs k s) : i < k ∧ negB cs i = true ∧ stA cs i = s := by
  unfold ngI at h
  rw [List.mem_filter, List.mem_range] at h
  simp only [Bool.and_eq_true, beq_iff_eq] at h
  exact h
theorem stA_succ (cs : List Cp) (k : Nat) (hk : k < cs.length) : stA cs (k + 1) = stA cs k + if negB cs k then 0 else 1 := by
  unfold stA negB cpA
  rw [List.take_succ_eq_append_getElem hk, stg_append, List.getD_eq_getElem?_getD, List.getElem?_eq_getElem hk]
  simp [stg]
theorem stA_mono (cs : List Cp) : ∀ (j i : Nat), i ≤ j → j ≤ cs.length → stA cs i ≤ stA cs j
  | 0, i, h, _ => by have : i = 0 := by omega
                     subst this; exact Nat.le_refl _
  | j + 1, i, h, hj => by
    rcases Nat.lt_or_ge i (j + 1) with h1 | h1
    · have := stA_mono cs j i (by omega) (by omega)
      have := stA_succ cs j (by omega)
      omega
    · have : i = j + 1 := by omega
      subst this; exact Nat.le_refl _
theorem stA_pos (cs : List Cp) (i j : Nat) (h : i < j) (hj : j ≤ cs.length) (hn : negB cs i = false) : stA cs i < stA cs j := by
  have h1 := stA_succ cs i (by omega)
  have h2 := stA_mono cs j (i + 1) (by omega) hj
  rw [hn] at h1
  simp at h1
  omega
theorem stA_all (cs : List Cp) : stA cs cs.length = stg cs := by unfold stA; rw [List.take_length]
theorem stA_lt (cs : List Cp) (hl : negB cs (cs.length - 1) = false) (i : Nat) (h : i < cs.length) : stA cs i < stg cs := by
  have h1 := stA_mono cs (cs.length - 1) i (by omega) (by omega)
  have h2 := stA_pos cs (cs.length - 1) cs.length (by omega) (Nat.le_refl _) hl
  rw [stA_all] at h2
  omega
theorem ngI_len (cs : List Cp) (k s : Nat) : (ngI cs k s).length ≤ k := by
  unfold ngI
  exact Nat.le_trans (List.length_filter_le _ _) (by simp)

/-- A negated one, without conditions, as it lies in its list. -/
def kN0 : Kd Ng where
  sz := 3
  E := []
  K _ x cs := cs = [.string x.f0, .string x.f1, .slice none 0 0]
  M _ _ _ x cs := cs = [.string x.f0, .string x.f1, .slice none 0 0]
  K_len := by rintro _ _ _ rfl; rfl
  K_one := by rintro _ _ _ rfl u hu; simp at hu; rcases hu with rfl | rfl | rfl <;> rfl
  K_below := fun _ h => h
  K_of_M := fun h => h
  M_mono := fun _ h => h
  M_bound := fun h => h
  M_move := fun _ h => h
  M_lower := fun _ h => h
def ngOf (cs : List Cp) (i : Nat) : Ng := ⟨(cpA cs i).f2, (cpA cs i).f3, []⟩
def ngL (cs : List Cp) (k s : Nat) : List Ng := (ngI cs k s).map (ngOf cs)

def upd {α : Type} (F : Nat → α) (s : Nat) (v : α) : Nat → α := fun x => if x = s then v else F x
def cellS (T U : Nat → ByteArray) (Pl : Nat → Bool) (V3 V4 V5 V6 : Nat → Value) (o : Nat) : Value :=
  if o % 7 = 0 then .string (T (o / 7)) else if o % 7 = 1 then .string (U (o / 7)) else if o % 7 = 2 then .bool (Pl (o / 7)) else if o % 7 = 3 then V3 (o / 7) else if o % 7 = 4 then V4 (o / 7) else if o % 7 = 5 then V5 (o / 7) else V6 (o / 7)
section
variable (T U : Nat → ByteArray) (Pl : Nat → Bool) (V3 V4 V5 V6 : Nat → Value) (s : Nat)
theorem cellS_at0 : cellS T U Pl V3 V4 V5 V6 (s * 7) = .string (T s) := by unfold cellS; rw [if_pos (by omega), show s * 7 / 7 = s from by omega]
theorem cellS_at1 : cellS T U Pl V3 V4 V5 V6 (s * 7 + 1) = .string (U s) := by unfold cellS; rw [if_neg (by omega), if_pos (by omega), show (s * 7 + 1) / 7 = s from by omega]
theorem cellS_at2 : cellS T U Pl V3 V4 V5 V6 (s * 7 + 2) = .bool (Pl s) := by unfold cellS; rw [if_neg (by omega), if_neg (by omega), if_pos (by omega), show (s * 7 + 2) / 7 = s from by omega]
theorem cellS_at3 : cellS T U Pl V3 V4 V5 V6 (s * 7 + 3) = V3 s := by unfold cellS; rw [if_neg (by omega), if_neg (by omega), if_neg (by omega), if_pos (by omega), show (s * 7 + 3) / 7 = s from by omega]
theorem cellS_at4 : cellS T U Pl V3 V4 V5 V6 (s * 7 + 4) = V4 s := by unfold cellS; rw [if_neg (by omega), if_neg (by omega), if_neg (by omega), if_neg (by omega), if_pos (by omega), show (s * 7 + 4) / 7 = s from by omega]
theorem cellS_at5 : cellS T U Pl V3 V4 V5 V6 (s * 7 + 5) = V5 s := by unfold cellS; rw [if_neg (by omega), if_neg (by omega), if_neg (by omega), if_neg (by omega), if_neg (by omega), if_pos (by omega), show (s * 7 + 5) / 7 = s from by omega]
theorem cellS_at6 : cellS T U Pl V3 V4 V5 V6 (s * 7 + 6) = V6 s := by unfold cellS; rw [if_neg (by omega), if_neg (by omega), if_neg (by omega), if_neg (by omega), if_neg (by omega), if_neg (by omega), show (s * 7 + 6) / 7 = s from by omega]
theorem cellS_set0 (v : ByteArray) (o : Nat) : (if o = s * 7 then .string v else cellS T U Pl V3 V4 V5 V6 o) = cellS (upd T s v) U Pl V3 V4 V5 V6 o := by
  by_cases h : o = s * 7
  · subst h; rw [if_pos rfl, cellS_at0]; simp [upd]
  · rw [if_neg h]; unfold cellS upd
    by_cases h2 : o % 7 = 0
    · rw [if_pos h2, if_pos h2, if_neg (by omega)]
    · rw [if_neg h2, if_neg h2]
theorem cellS_set1 (v : ByteArray) (o : Nat) : (if o = s * 7 + 1 then .string v else cellS T U Pl V3 V4 V5 V6 o) = cellS T (upd U s v) Pl V3 V4 V5 V6 o := by
  by_cases h : o = s * 7 + 1
  · subst h; rw [if_pos rfl, cellS_at1]; simp [upd]
  · rw [if_neg h]; unfold cellS upd
    by_cases h2 : o % 7 = 1
    · simp only [h2, if_true]; rw [if_neg (show ¬ o / 7 = s by omega)]
    · simp only [h2, if_false]
theorem cellS_set2 (v : Bool) (o : Nat) : (if o = s * 7 + 2 then .bool v else cellS T U Pl V3 V4 V5 V6 o) = cellS T U (upd Pl s v) V3 V4 V5 V6 o := by
  by_cases h : o = s * 7 + 2
  · subst h; rw [if_pos rfl, cellS_at2]; simp [upd]
  · rw [if_neg h]; unfold cellS upd
    by_cases h2 : o % 7 = 2
    · simp only [h2, if_true]; rw [if_neg (show ¬ o / 7 = s by omega)]
    · simp only [h2, if_false]
theorem cellS_set3 (v : Value) (o : Nat) : (if o = s * 7 + 3 then v else cellS T U Pl V3 V4 V5 V6 o) = cellS T U Pl (upd V3 s v) V4 V5 V6 o := by
  by_cases h : o = s * 7 + 3
  · subst h; rw [if_pos rfl, cellS_at3]; simp [upd]
  · rw [if_neg h]; unfold cellS upd
    by_cases h2 : o % 7 = 3
    · simp only [h2, if_true]; rw [if_neg (show ¬ o / 7 = s by omega)]
    · simp only [h2, if_false]
theorem cellS_set4 (v : Value) (o : Nat) : (if o = s * 7 + 4 then v else cellS T U Pl V3 V4 V5 V6 o) = cellS T U Pl V3 (upd V4 s v) V5 V6 o := by
  by_cases h : o = s * 7 + 4
  · subst h; rw [if_pos rfl, cellS_at4]; simp [upd]
  · rw [if_neg h]; unfold cellS upd
    by_cases h2 : o % 7 = 4
    · simp only [h2, if_true]; rw [if_neg (show ¬ o / 7 = s by omega)]
    · simp only [h2, if_false]
theorem cellS_set5 (v : Value) (o : Nat) : (if o = s * 7 + 5 then v else cellS T U Pl V3 V4 V5 V6 o) = cellS T U Pl V3 V4 (upd V5 s v) V6 o := by
  by_cases h : o = s * 7 + 5
  · subst h; rw [if_pos rfl, cellS_at5]; simp [upd]
  · rw [if_neg h]; unfold cellS upd
    by_cases h2 : o % 7 = 5
    · simp only [h2, if_true]; rw [if_neg (show ¬ o / 7 = s by omega)]
    · simp only [h2, if_false]
theorem cellS_set6 (v : Value) (o : Nat) : (if o = s * 7 + 6 then v else cellS T U Pl V3 V4 V5 V6 o) = cellS T U Pl V3 V4 V5 (upd V6 s v) o := by
  by_cases h : o = s * 7 + 6
  · subst h; rw [if_pos rfl, cellS_at6]; simp [upd]
  · rw [if_neg h]; unfold cellS upd
    by_cases h2 : o % 7 = 6
    · simp only [h2, if_true]; rw [if_neg (show ¬ o / 7 = s by omega)]
    · have h3 : o % 7 < 7 := Nat.mod_lt _ (by omega)
      by_cases h0 : o % 7 = 0
      · rw [if_pos h0, if_pos h0]
      by_cases h1 : o % 7 = 1
      · simp [h1]
      by_cases h2 : o % 7 = 2
      · simp [h2]
      by_cases h3 : o % 7 = 3
      · simp [h3]
      by_cases h4 : o % 7 = 4
      · simp [h4]
      by_cases h5 : o % 7 = 5
      · simp [h5]
      omega
end
def nilV : Nat → Value := fun _ => .slice none 0 0

theorem rowIs_far {w : World} {b : Nat} {t : TypeId} {n : Nat} {f : Nat → Value} (h : w.rowIs b t n f) {w1 : World} {row : Option Nat} (hg : w.grownBy w1 row) (hne : some b ≠ row) : w1.rowIs b t n f := h.of_block (hg.block b h.lt hne)
theorem rowIs_below {w : World} {b : Nat} {t : TypeId} {n : Nat} {f : Nat → Value} (h : w.rowIs b t n f) {w1 : World} (hb : Below w.heap.size w w1) : w1.rowIs b t n f := h.of_block (hb.block b h.lt)

structure Lo1 (w : World) (base S N G : Nat) (cs : List Cp) (k : Nat) : Prop where
  bS : base ≤ S
  bN : base ≤ N
  bG : base ≤ G
  hG : w.heap[G]? = some (.cells #[.slice (some ⟨S, 0, none⟩) (stg cs) (stg cs), .slice (some ⟨N, 0, none⟩) cs.length cs.length, .slice none 0 0] 102 (0, 0))
  hN : w.rowIs N 132 cs.length (fun _ => .pointer none)
  ex : ∃ (T U : Nat → ByteArray) (Pl : Nat → Bool) (V : Nat → Value) (f : Nat → Nat), w.rowIs S 71 (stg cs * 7) (cellS T U Pl V nilV nilV nilV) ∧
    (∀ s, kN0.R 73 w base (fun b => f b = s) (V s) (ngL cs k s)) ∧ (∀ s, ngI cs k s = [] → V s = .slice none 0 0) ∧
    (∀ i, i < k → negB cs i = false → T (stA cs i) = (cpA cs i).f2 ∧ U (stA cs i) = (cpA cs i).f3 ∧ Pl (stA cs i) = (cpA cs i).f1)

theorem Lo1.below {w w1 : World} {base S N G : Nat} {cs : List Cp} {k : Nat} (h : Lo1 w base S N G cs k) (hb : Below w.heap.size w w1) : Lo1 w1 base S N G cs k := by
  obtain ⟨h1, h2, h3, h4, h5, T, U, Pl, V, f, h6, h7, h8, h9⟩ := h
  exact ⟨h1, h2, h3, blk_below h4 hb, rowIs_below h5 hb, T, U, Pl, V, f, rowIs_below h6 hb, fun s => Kd.R_below (h7 s) hb, h8, h9⟩

theorem rowIs_ne {w : World} {b b' : Nat} {t t' : TypeId} {n n' : Nat} {f f' : Nat → Value} (h : w.rowIs b t n f) (h' : w.rowIs b' t' n' f') (ht : t ≠ t') : b ≠ b' := by
  obtain ⟨c, hb, _⟩ := h
  obtain ⟨c', hb', _⟩ := h'
  rintro rfl
  rw [hb] at hb'
  injection hb' with hb'
  injection hb' with _ hb'
  exact ht hb'
theorem rowIs_blk_ne {w : World} {b b' : Nat} {t t' : TypeId} {n : Nat} {f : Nat → Value} {cs : Array Value} (h : w.rowIs b t n f) (h' : w.heap[b']? = some (.cells cs t' (0, 0))) (ht : t ≠ t') : b ≠ b' := by
  obtain ⟨c, hb, _⟩ := h
  rintro rfl
  rw [hb] at h'
  injection h' with h'
  injection h' with _ h'
  exact ht h'
theorem R_ne_row {α : Type} {d : Kd α} {e base : Nat} {w : World} {ok : Nat → Prop} {v : Value} {xs : List α} (h : d.R e w base ok v xs) {b t n : Nat} {f : Nat → Value} (hr : w.rowIs b t n f) (ht : e ≠ t) : some b ≠ v.ownBlock := by
  obtain ⟨c, hb, _⟩ := hr
  exact Kd.R_ne h hb ht
theorem R_set_row {α : Type} {d : Kd α} {e base : Nat} {w : World} {ok : Nat → Prop} {v : Value} {xs : List α} (h : d.R e w base ok v xs) {b t n : Nat} {f : Nat → Value} (hr : w.rowIs b t n f) (ht : ∀ q, q ∈ e :: d.E → q ≠ t) (j : Nat) (u : Value) : d.R e (w.setCell ⟨b, j, none⟩ u) base ok v xs := by
  obtain ⟨c, hb, _⟩ := hr
  exact Kd.R_set h hb ht j u

theorem Lo1.put_neg {W w1 : World} {base S N G : Nat} {cs : List Cp} {k : Nat} {T U : Nat → ByteArray} {Pl : Nat → Bool} {V : Nat → Value} {f : Nat → Nat} {v1 : Value}
    (bS : base ≤ S) (bN : base ≤ N) (bG : base ≤ G)
    (hG : W.heap[G]? = some (.cells #[.slice (some ⟨S, 0, none⟩) (stg cs) (stg cs), .slice (some ⟨N, 0, none⟩) cs.length cs.length, .slice none 0 0] 102 (0, 0)))
    (hN : W.rowIs N 132 cs.length (fun _ => .pointer none))
    (hS : W.rowIs S 71 (stg cs * 7) (cellS T U Pl V nilV nilV nilV))
    (hV : ∀ s, kN0.R 73 W base (fun b => f b = s) (V s) (ngL cs k s)) (hE : ∀ s, ngI cs k s = [] → V s = .slice none 0 0)
    (hT : ∀ i, i < k → negB cs i = false → T (stA cs i) = (cpA cs i).f2 ∧ U (stA cs i) = (cpA cs i).f3 ∧ Pl (stA cs i) = (cpA cs i).f1)
    (hneg : negB cs k = true) (hk : k < cs.length)
    (hg : W.grownBy w1 (V (stA cs k)).ownBlock)
    (hR : kN0.R 73 w1 base (fun b => (if W.heap.size ≤ b then stA cs k else f b) = stA cs k) v1 (ngL cs k (stA cs k) ++ [ngOf cs k])) :
    Lo1 (w1.setCell ⟨S, stA cs k * 7 + 3, none⟩ v1) base S N G cs (k + 1) := by
  have hSn := R_ne_row (hV (stA cs k)) hS (by decide)
  have hNn := R_ne_row (hV (stA cs k)) hN (by decide)
  have hGn := Kd.R_ne (hV (stA cs k)) hG (by decide)
  have hS1 := rowIs_far hS hg hSn
  have hN1 := rowIs_far hN hg hNn
  have hG1 := blk_grown hG hg hGn
  refine ⟨bS, bN, bG, blk_far hG1 (p := ⟨S, stA cs k * 7 + 3, none⟩) (fun h => rowIs_blk_ne hS1 hG1 (by decide) h.symm) _, hN1.setOther (a := ⟨S, stA cs k * 7 + 3, none⟩) (fun h => rowIs_ne hS1 hN1 (by decide) h.symm) _, T, U, Pl, upd V (stA cs k) v1, fun b => if W.heap.size ≤ b then stA cs k else f b, ?_, ?_, ?_, ?_⟩
  · exact (hS1.set (stA cs k * 7 + 3) v1).congr (fun i _ => cellS_set3 _ _ _ _ _ _ _ _ _ _)
  · intro s
    unfold upd
    by_cases hs : s = stA cs k
    · subst hs
      rw [if_pos rfl]
      have he : ngL cs (k + 1) (stA cs k) = ngL cs k (stA cs k) ++ [ngOf cs k] := by
        unfold ngL; rw [ngI_succ, hneg]; simp
      rw [he]
      exact R_set_row hR hS1 (by intro q hq; simp [kN0] at hq; omega) _ _
    · rw [if_neg hs]
      have he : ngL cs (k + 1) s = ngL cs k s := by
        unfold ngL; rw [ngI_succ]; simp [show ¬ stA cs k = s from fun h => hs h.symm]
      rw [he]
      have h1 := Kd.R_mono (Kd.R_bound (hV s)) (ok' := fun b => f b = s ∧ b < W.heap.size) (fun b hb => ⟨hb.1, hb.2.2.1⟩)
      have h2 := Kd.R_grown h1 hg (fun b hb he => by have := (hV (stA cs k)).1 b he.symm; simp at this; omega)
      exact Kd.R_mono (R_set_row h2 hS1 (by intro q hq; simp [kN0] at hq; omega) _ _) (fun b hb => by show (if W.heap.size ≤ b then stA cs k else f b) = s; rw [if_neg (by omega)]; exact hb.1)
  · intro s hs
    rw [ngI_succ] at hs
    have h1 := List.append_eq_nil_iff.1 hs
    have : s ≠ stA cs k := by
      rintro rfl
      have := h1.2
      rw [hneg] at this
      simp at this
    unfold upd
    rw [if_neg this]
    exact hE s h1.1
  · intro i hi hni
    refine hT i ?_ hni
    rcases Nat.lt_or_ge i k with h | h
    · exact h
    · have : i = k := by omega
      subst this
      rw [hneg] at hni
      exact absurd hni (by decide)

theorem Lo1.put_pos {W : World} {base S N G : Nat} {cs : List Cp} {k : Nat} (h : Lo1 W base S N G cs k) (hpos : negB cs k = false) (hk : k < cs.length) :
    Lo1 (((W.setCell ⟨S, stA cs k * 7, none⟩ (.string (cpA cs k).f2)).setCell ⟨S, stA cs k * 7 + 1, none⟩ (.string (cpA cs k).f3)).setCell ⟨S, stA cs k * 7 + 2, none⟩ (.bool (cpA cs k).f1)) base S N G cs (k + 1) := by
  obtain ⟨bS, bN, bG, hG, hN, T, U, Pl, V, f, hS, hV, hE, hT⟩ := h
  have ngk : ∀ s, ngI cs (k + 1) s = ngI cs k s := by intro s; rw [ngI_succ, hpos]; simp
  have e1 := (hS.set (stA cs k * 7) (.string (cpA cs k).f2)).congr (fun i _ => cellS_set0 _ _ _ _ _ _ _ _ _ _)
  have e2 := (e1.set (stA cs k * 7 + 1) (.string (cpA cs k).f3)).congr (fun i _ => cellS_set1 _ _ _ _ _ _ _ _ _ _)
  have e3 := (e2.set (stA cs k * 7 + 2) (.bool (cpA cs k).f1)).congr (fun i _ => cellS_set2 _ _ _ _ _ _ _ _ _ _)
  have n0 : N ≠ S := fun h => rowIs_ne hS hN (by decide) h.symm
  have g0 : G ≠ S := fun h => rowIs_blk_ne hS hG (by decide) h.symm
  refine ⟨bS, bN, bG, blk_far (blk_far (blk_far hG (p := ⟨S, stA cs k * 7, none⟩) g0 _) (p := ⟨S, stA cs k * 7 + 1, none⟩) g0 _) (p := ⟨S, stA cs k * 7 + 2, none⟩) g0 _, ((hN.setOther (a := ⟨S, stA cs k * 7, none⟩) n0 _).setOther (a := ⟨S, stA cs k * 7 + 1, none⟩) n0 _).setOther (a := ⟨S, stA cs k * 7 + 2, none⟩) n0 _, _, _, _, V, f, e3, ?_, ?_, ?_⟩
  · intro s
    unfold ngL
    rw [ngk s]
    refine R_set_row (R_set_row (R_set_row (hV s) hS ?_ _ _) e1 ?_ _ _) e2 ?_ _ _ <;> (intro q hq; simp [kN0] at hq; omega)
  · intro s hs
    rw [ngk] at hs
    exact hE s hs
  · intro i hi hni
    unfold upd
    rcases Nat.lt_or_ge i k with h | h
    · have := stA_pos cs i k h (by omega) hni
      rw [if_neg (by omega), if_neg (by omega), if_neg (by omega)]
      exact hT i h hni
    · have : i = k := by omega
      subst this
      simp
end Go.Proofs.Ytgnifglolbfamaa
