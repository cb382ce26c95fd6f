/- The walks of tree.Refs and place.again. -/
import Derived.Test.YtgnifglolbfamaaPlA
set_option linter.unusedVariables false
set_option linter.unusedSimpArgs false
namespace Go.Proofs.Ytgnifglolbfamaa
open Go.RowKit Go.Proofs.YtgnifglolbfamaaW.PrintWords

/-- What an expression that is spoken says as a reference. -/
def refOf (x : Ex) : Rf := ⟨x.f3, x.f4, x.f5, if x.f0 = 3 then x.f1 else 0⟩
def refsOf (x : Ex) : List Rf := (spk x).map refOf

theorem atSp {w : World} {A : Option Addr} {n : Nat} {xs : List Ex} (h : Kd.C kSp w A n xs) (k : Nat) (hk : k < n) (hk' : k < xs.length) : ∃ ad B9 n9 c9, A = some ad ∧ w.cell? (ad.add (k * 10)) = some (.int .i64 xs[k].f0) ∧ w.cell? ⟨(ad.add (k * 10)).block, (ad.add (k * 10)).off + 1, none⟩ = some (.int .i64 xs[k].f1) ∧ w.cell? ⟨(ad.add (k * 10)).block, (ad.add (k * 10)).off + 2, none⟩ = some (.int .i64 xs[k].f2.f0) ∧ w.cell? ⟨(ad.add (k * 10)).block, (ad.add (k * 10)).off + 3, none⟩ = some (.int .i64 xs[k].f2.f1) ∧ w.cell? ⟨(ad.add (k * 10)).block, (ad.add (k * 10)).off + 4, none⟩ = some (.string xs[k].f2.f2) ∧ w.cell? ⟨(ad.add (k * 10)).block, (ad.add (k * 10)).off + 5, none⟩ = some (.bool xs[k].f2.f3) ∧ w.cell? ⟨(ad.add (k * 10)).block, (ad.add (k * 10)).off + 6, none⟩ = some (.string xs[k].f3) ∧ w.cell? ⟨(ad.add (k * 10)).block, (ad.add (k * 10)).off + 7, none⟩ = some (.int .i64 xs[k].f4) ∧ w.cell? ⟨(ad.add (k * 10)).block, (ad.add (k * 10)).off + 8, none⟩ = some (.string xs[k].f5) ∧ w.cell? ⟨(ad.add (k * 10)).block, (ad.add (k * 10)).off + 9, none⟩ = some (.slice B9 n9 c9) := by
  obtain ⟨ad, e, hc⟩ := h.2.2 (by omega)
  obtain ⟨c, _, ⟨B9, n9, c9, rfl⟩, hc0⟩ := hc k _ (List.getElem?_eq_getElem hk')
  exact ⟨ad, B9, n9, c9, e, hc0 0 _ rfl, by rw [← add_field _ _ 1 (by omega)]; exact hc0 1 _ rfl, by rw [← add_field _ _ 2 (by omega)]; exact hc0 2 _ rfl, by rw [← add_field _ _ 3 (by omega)]; exact hc0 3 _ rfl, by rw [← add_field _ _ 4 (by omega)]; exact hc0 4 _ rfl, by rw [← add_field _ _ 5 (by omega)]; exact hc0 5 _ rfl, by rw [← add_field _ _ 6 (by omega)]; exact hc0 6 _ rfl, by rw [← add_field _ _ 7 (by omega)]; exact hc0 7 _ rfl, by rw [← add_field _ _ 8 (by omega)]; exact hc0 8 _ rfl, by rw [← add_field _ _ 9 (by omega)]; exact hc0 9 _ rfl⟩

def RfPost (L : List Rf) (w : World) (e : Ending) (w' : World) : Prop := Below w.heap.size w w' ∧ ∃ v, e = .returned v ∧ kRf.R 42 w' w.heap.size (fun _ => True) v L

set_option maxHeartbeats 2000000 in
set_option maxRecDepth 100000 in
theorem refs_any (x : Ex) (A : Option Addr) (c : Nat) (w : World) (hN : exN x ≤ 100000000000) (hc : x.f6.length ≤ c) (hC : kEx.C w A x.f6.length x.f6) :
    Calls Try.prog 12 #[exV x (.slice A x.f6.length c)] w (RfPost (refsOf x) w) := by
  have hsl := Nat.le_trans (spk_len x) hN
  have hp := spoken_any (exN x) x A c (w.alloc (.cells #[.int .i64 x.f0, .int .i64 x.f1, .int .i64 x.f2.f0, .int .i64 x.f2.f1, .string x.f2.f2, .bool x.f2.f3, .string x.f3, .int .i64 x.f4, .string x.f5, .slice A x.f6.length c] 31)) (Nat.le_refl _) hN hc (Kd.C_below hC (below_new _ _))
  unfold refsOf
  generalize spk x = L at *
  clear hN hc hC
  unfold exV at hp ⊢
  go_enter Try.func12, Try.ntmps12
  go_wp2_with fail
  refine hp.mono ?_
  rintro e W1 ⟨hb1, v1, rfl, hr1⟩
  obtain ⟨A1, c1, rfl, hc1, hC1⟩ := Kd.R_reads hr1
  have HC := Lib.hid hC1
  have hB1 := below_step (below_new w _) hb1
  have hmx := hC1.2.1
  clear hr1 hC1 hb1 hp
  go_wp2_with fail
  go_loopw [3, 10] (fun t3 t10 wr => ∃ k : Nat, k ≤ L.length ∧ t10 = .int .i64 k ∧ Below W1.heap.size W1 wr ∧ Hid (kRf.R 42 wr W1.heap.size (fun _ => True) t3 ((L.take k).map refOf))) (fun _ t10 _ => L.length - (intOf t10).toNat)
  case atStart => exact ⟨0, by omega, rfl, Below.refl _ _, Lib.hid (Kd.R_nil _ _ _ _ _)⟩
  case round =>
    obtain ⟨k, hk, rfl, hB, hO⟩ := hrel
    have hsz := hB.size
    by_cases hlt : k < L.length
    · obtain ⟨ad, B9, n9, c9, rfl, e0, e1, e2, e3, e4, e5, e6, e7, e8, e9⟩ := atSp HC.out k hlt hlt
      have i1 : (0 : Int) ≤ (k : Int) := by omega
      have i2 : (k : Int) < L.length := by omega
      have e0 := pw_cell_below hB e0
      have e1 := pw_cell_below hB e1
      have e2 := pw_cell_below hB e2
      have e3 := pw_cell_below hB e3
      have e4 := pw_cell_below hB e4
      have e5 := pw_cell_below hB e5
      have e6 := pw_cell_below hB e6
      have e7 := pw_cell_below hB e7
      have e8 := pw_cell_below hB e8
      have e9 := pw_cell_below hB e9
      have HT := Lib.hid (show (L.take (k + 1)).map refOf = (L.take k).map refOf ++ [refOf L[k]] by rw [List.take_succ_eq_append_getElem hlt, List.map_append]; rfl)
      have hxl : ((L.take k).map refOf).length ≤ k := by simp; omega
      generalize hxs : (L.take k).map refOf = xs at *
      generalize L[k] = y at *
      clear hxs
      have hB2 := below_step hB1 hB
      have hle : (xs.length + 1) * 48 ≤ 140737488355328 := by omega
      by_cases h3 : y.f0 = 3
      · have d3 : (y.f0 == 3) = true := by simpa using h3
        have HF := Lib.hid (show refOf y = ⟨y.f3, y.f4, y.f5, y.f1⟩ by simp [refOf, h3])
        clear h3
        have hO2 := Kd.R_below (Kd.R_below hO.out (below_new wr (.cells #[.int .i64 y.f0, .int .i64 y.f1, .int .i64 y.f2.f0, .int .i64 y.f2.f1, .string y.f2.f2, .bool y.f2.f3, .string y.f3, .int .i64 y.f4, .string y.f5, .slice B9 n9 c9] 31))) (below_new _ (.cells #[.string y.f3, .int .i64 y.f4, .string y.f5, .int .i64 y.f1] 42))
        have hB3 := below_step (below_step hB (below_new wr (.cells #[.int .i64 y.f0, .int .i64 y.f1, .int .i64 y.f2.f0, .int .i64 y.f2.f1, .string y.f2.f2, .bool y.f2.f3, .string y.f3, .int .i64 y.f4, .string y.f5, .slice B9 n9 c9] 31))) (below_new _ (.cells #[.string y.f3, .int .i64 y.f4, .string y.f5, .int .i64 y.f1] 42))
        go_wp2_with (at_builtin; go_must (refine Kd.R_append kRf (w0 := W1) (W := (wr.alloc (.cells #[.int .i64 y.f0, .int .i64 y.f1, .int .i64 y.f2.f0, .int .i64 y.f2.f1, .string y.f2.f2, .bool y.f2.f3, .string y.f3, .int .i64 y.f4, .string y.f5, .slice B9 n9 c9] 31)).alloc (.cells #[.string y.f3, .int .i64 y.f4, .string y.f5, .int .i64 y.f1] 42)) W1.heap.size (by rfl) _ _ 38 42 _ 48 (by rfl) Try.underlying38 infoRf (by rfl) (by decide) (by omega) u3 xs (refOf y) [.string y.f3, .int .i64 y.f4, .string y.f5, .int .i64 y.f1] (fun _ => True) (fun _ => False) (by rfl) (by rw [alloc_size', alloc_size']; rfl) (by rw [HF.out]; exact kRf_mkM _ _ _ _) (fun _ h => h.elim) (fun _ _ => trivial) hO2 hB3 hB3.size hle ?_))
        intro v2 w2 hR2 hB4 hg2 _
        go_wp2_with fail
        go_roundw
        case rel => exact ⟨k + 1, by omega, by go_num, hB4, Lib.hid (by rw [HT.out]; exact hR2)⟩
        case measure => simp [intOf]; omega
      · have d3 : (y.f0 == 3) = false := by simpa using h3
        have HF := Lib.hid (show refOf y = ⟨y.f3, y.f4, y.f5, 0⟩ by simp [refOf, h3])
        clear h3
        have hO2 := Kd.R_below (Kd.R_below hO.out (below_new wr (.cells #[.int .i64 y.f0, .int .i64 y.f1, .int .i64 y.f2.f0, .int .i64 y.f2.f1, .string y.f2.f2, .bool y.f2.f3, .string y.f3, .int .i64 y.f4, .string y.f5, .slice B9 n9 c9] 31))) (below_new _ (.cells #[.string y.f3, .int .i64 y.f4, .string y.f5, .int .i64 0] 42))
        have hB3 := below_step (below_step hB (below_new wr (.cells #[.int .i64 y.f0, .int .i64 y.f1, .int .i64 y.f2.f0, .int .i64 y.f2.f1, .string y.f2.f2, .bool y.f2.f3, .string y.f3, .int .i64 y.f4, .string y.f5, .slice B9 n9 c9] 31))) (below_new _ (.cells #[.string y.f3, .int .i64 y.f4, .string y.f5, .int .i64 0] 42))
        go_wp2_with (at_builtin; go_must (refine Kd.R_append kRf (w0 := W1) (W := (wr.alloc (.cells #[.int .i64 y.f0, .int .i64 y.f1, .int .i64 y.f2.f0, .int .i64 y.f2.f1, .string y.f2.f2, .bool y.f2.f3, .string y.f3, .int .i64 y.f4, .string y.f5, .slice B9 n9 c9] 31)).alloc (.cells #[.string y.f3, .int .i64 y.f4, .string y.f5, .int .i64 0] 42)) W1.heap.size (by rfl) _ _ 38 42 _ 48 (by rfl) Try.underlying38 infoRf (by rfl) (by decide) (by omega) u3 xs (refOf y) [.string y.f3, .int .i64 y.f4, .string y.f5, .int .i64 0] (fun _ => True) (fun _ => False) (by rfl) (by rw [alloc_size', alloc_size']; rfl) (by rw [HF.out]; exact kRf_mkM _ _ _ _) (fun _ h => h.elim) (fun _ _ => trivial) hO2 hB3 hB3.size hle ?_))
        intro v2 w2 hR2 hB4 hg2 _
        go_wp2_with fail
        go_roundw
        case rel => exact ⟨k + 1, by omega, by go_num, hB4, Lib.hid (by rw [HT.out]; exact hR2)⟩
        case measure => simp [intOf]; omega
    · go_wp2_with fail
      go_ret
      have h := hO.out
      rw [List.take_of_length_le (by omega)] at h
      exact ⟨below_step hB1 hB, _, rfl, Kd.R_lower h hB1.size⟩
end Go.Proofs.Ytgnifglolbfamaa
