/- Texts of the claim, merged in build order: PlB, PlC, PlD, PlE. -/
import Derived.Test.YtgnifglolbfamaaZAA
import Derived.Maps.Own
import Derived.Maps.OwnOps
import Derived.Maps.OwnSet
import Derived.Maps.Views
import Derived.Deep.WholeRow
import Derived.Carry
import Derived.Deep.RegionLaw
/- The walks of tree.Refs and place.again. -/
set_option linter.unusedVariables false
set_option linter.unusedSimpArgs false
namespace Go.Proofs.Ytgnifglolbfamaa
open Go.RowKit Go.Proofs.YtgnifglolbfamaaW.PrintWords

/-- What an expression that is spoken says as a reference. -/
def refOf (x : Ex) : Rf := ⟨x.f3, x.f4, x.f5, if x.f0 = 3 then x.f1 else 0⟩
def refsOf (x : Ex) : List Rf := (spk x).map refOf

theorem atSp {w : World} {A : Option Addr} {n : Nat} {xs : List Ex} (h : Kd.C kSp w A n xs) (k : Nat) (hk : k < n) (hk' : k < xs.length) : ∃ ad B9 n9 c9, A = some ad ∧ w.cell? (ad.add (k * 10)) = some (.int .i64 xs[k].f0) ∧ w.cell? ⟨(ad.add (k * 10)).block, (ad.add (k * 10)).off + 1, none⟩ = some (.int .i64 xs[k].f1) ∧ w.cell? ⟨(ad.add (k * 10)).block, (ad.add (k * 10)).off + 2, none⟩ = some (.int .i64 xs[k].f2.f0) ∧ w.cell? ⟨(ad.add (k * 10)).block, (ad.add (k * 10)).off + 3, none⟩ = some (.int .i64 xs[k].f2.f1) ∧ w.cell? ⟨(ad.add (k * 10)).block, (ad.add (k * 10)).off + 4, none⟩ = some (.string xs[k].f2.f2) ∧ w.cell? ⟨(ad.add (k * 10)).block, (ad.add (k * 10)).off + 5, none⟩ = some (.bool xs[k].f2.f3) ∧ w.cell? ⟨(ad.add (k * 10)).block, (ad.add (k * 10)).off + 6, none⟩ = some (.string xs[k].f3) ∧ w.cell? ⟨(ad.add (k * 10)).block, (ad.add (k * 10)).off + 7, none⟩ = some (.int .i64 xs[k].f4) ∧ w.cell? ⟨(ad.add (k * 10)).block, (ad.add (k * 10)).off + 8, none⟩ = some (.string xs[k].f5) ∧ w.cell? ⟨(ad.add (k * 10)).block, (ad.add (k * 10)).off + 9, none⟩ = some (.slice B9 n9 c9) := by
  obtain ⟨ad, e, hc⟩ := h.2.2 (by omega)
  obtain ⟨c, _, ⟨B9, n9, c9, rfl⟩, hc0⟩ := hc k _ (List.getElem?_eq_getElem hk')
  exact ⟨ad, B9, n9, c9, e, hc0 0 _ rfl, by rw [← add_field _ _ 1 (by omega)]; exact hc0 1 _ rfl, by rw [← add_field _ _ 2 (by omega)]; exact hc0 2 _ rfl, by rw [← add_field _ _ 3 (by omega)]; exact hc0 3 _ rfl, by rw [← add_field _ _ 4 (by omega)]; exact hc0 4 _ rfl, by rw [← add_field _ _ 5 (by omega)]; exact hc0 5 _ rfl, by rw [← add_field _ _ 6 (by omega)]; exact hc0 6 _ rfl, by rw [← add_field _ _ 7 (by omega)]; exact hc0 7 _ rfl, by rw [← add_field _ _ 8 (by omega)]; exact hc0 8 _ rfl, by rw [← add_field _ _ 9 (by omega)]; exact hc0 9 _ rfl⟩

def RfPost (L : List Rf) (w : World) (e : Ending) (w' : World) : Prop := Below w.heap.size w w' ∧ ∃ v, e = .returned v ∧ kRf.R 42 w' w.heap.size (fun _ => True) v L

set_option maxHeartbeats 2000000 in
set_option maxRecDepth 100000 in
theorem refs_any (x : Ex) (A : Option Addr) (c : Nat) (w : World) (hN : exN x ≤ 100000000000) (hc : x.f6.length ≤ c) (hC : kEx.C w A x.f6.length x.f6) :
    Calls Try.prog 12 #[exV x (.slice A x.f6.length c)] w (RfPost (refsOf x) w) := by
  have hsl := Nat.le_trans (spk_len x) hN
  have hp := spoken_any (exN x) x A c (w.alloc (.cells #[.int .i64 x.f0, .int .i64 x.f1, .int .i64 x.f2.f0, .int .i64 x.f2.f1, .string x.f2.f2, .bool x.f2.f3, .string x.f3, .int .i64 x.f4, .string x.f5, .slice A x.f6.length c] 31)) (Nat.le_refl _) hN hc (Kd.C_below hC (below_new _ _))
  unfold refsOf
  generalize spk x = L at *
  clear hN hc hC
  unfold exV at hp ⊢
  go_enter Try.func12, Try.ntmps12
  go_wp2_with fail
  refine hp.mono ?_
  rintro e W1 ⟨hb1, v1, rfl, hr1⟩
  obtain ⟨A1, c1, rfl, hc1, hC1⟩ := Kd.R_reads hr1
  have HC := Lib.hid hC1
  have hB1 := below_step (below_new w _) hb1
  have hmx := hC1.2.1
  clear hr1 hC1 hb1 hp
  go_wp2_with fail
  go_loopw [3, 10] (fun t3 t10 wr => ∃ k : Nat, k ≤ L.length ∧ t10 = .int .i64 k ∧ Below W1.heap.size W1 wr ∧ Hid (kRf.R 42 wr W1.heap.size (fun _ => True) t3 ((L.take k).map refOf))) (fun _ t10 _ => L.length - (intOf t10).toNat)
  case atStart => exact ⟨0, by omega, rfl, Below.refl _ _, Lib.hid (Kd.R_nil _ _ _ _ _)⟩
  case round =>
    obtain ⟨k, hk, rfl, hB, hO⟩ := hrel
    have hsz := hB.size
    by_cases hlt : k < L.length
    · obtain ⟨ad, B9, n9, c9, rfl, e0, e1, e2, e3, e4, e5, e6, e7, e8, e9⟩ := atSp HC.out k hlt hlt
      have i1 : (0 : Int) ≤ (k : Int) := by omega
      have i2 : (k : Int) < L.length := by omega
      have e0 := pw_cell_below hB e0
      have e1 := pw_cell_below hB e1
      have e2 := pw_cell_below hB e2
      have e3 := pw_cell_below hB e3
      have e4 := pw_cell_below hB e4
      have e5 := pw_cell_below hB e5
      have e6 := pw_cell_below hB e6
      have e7 := pw_cell_below hB e7
      have e8 := pw_cell_below hB e8
      have e9 := pw_cell_below hB e9
      have HT := Lib.hid (show (L.take (k + 1)).map refOf = (L.take k).map refOf ++ [refOf L[k]] by rw [List.take_succ_eq_append_getElem hlt, List.map_append]; rfl)
      have hxl : ((L.take k).map refOf).length ≤ k := by simp; omega
      generalize hxs : (L.take k).map refOf = xs at *
      generalize L[k] = y at *
      clear hxs
      have hB2 := below_step hB1 hB
      have hle : (xs.length + 1) * 48 ≤ 140737488355328 := by omega
      by_cases h3 : y.f0 = 3
      · have d3 : (y.f0 == 3) = true := by simpa using h3
        have HF := Lib.hid (show refOf y = ⟨y.f3, y.f4, y.f5, y.f1⟩ by simp [refOf, h3])
        clear h3
        have hO2 := Kd.R_below (Kd.R_below hO.out (below_new wr (.cells #[.int .i64 y.f0, .int .i64 y.f1, .int .i64 y.f2.f0, .int .i64 y.f2.f1, .string y.f2.f2, .bool y.f2.f3, .string y.f3, .int .i64 y.f4, .string y.f5, .slice B9 n9 c9] 31))) (below_new _ (.cells #[.string y.f3, .int .i64 y.f4, .string y.f5, .int .i64 y.f1] 42))
        have hB3 := below_step (below_step hB (below_new wr (.cells #[.int .i64 y.f0, .int .i64 y.f1, .int .i64 y.f2.f0, .int .i64 y.f2.f1, .string y.f2.f2, .bool y.f2.f3, .string y.f3, .int .i64 y.f4, .string y.f5, .slice B9 n9 c9] 31))) (below_new _ (.cells #[.string y.f3, .int .i64 y.f4, .string y.f5, .int .i64 y.f1] 42))
        go_wp2_with (at_builtin; go_must (refine Kd.R_append kRf (w0 := W1) (W := (wr.alloc (.cells #[.int .i64 y.f0, .int .i64 y.f1, .int .i64 y.f2.f0, .int .i64 y.f2.f1, .string y.f2.f2, .bool y.f2.f3, .string y.f3, .int .i64 y.f4, .string y.f5, .slice B9 n9 c9] 31)).alloc (.cells #[.string y.f3, .int .i64 y.f4, .string y.f5, .int .i64 y.f1] 42)) W1.heap.size (by rfl) _ _ 38 42 _ 48 (by rfl) Try.underlying38 infoRf (by rfl) (by decide) (by omega) u3 xs (refOf y) [.string y.f3, .int .i64 y.f4, .string y.f5, .int .i64 y.f1] (fun _ => True) (fun _ => False) (by rfl) (by rw [alloc_size', alloc_size']; rfl) (by rw [HF.out]; exact kRf_mkM _ _ _ _) (fun _ h => h.elim) (fun _ _ => trivial) hO2 hB3 hB3.size hle ?_))
        intro v2 w2 hR2 hB4 hg2 _
        go_wp2_with fail
        go_roundw
        case rel => exact ⟨k + 1, by omega, by go_num, hB4, Lib.hid (by rw [HT.out]; exact hR2)⟩
        case measure => simp [intOf]; omega
      · have d3 : (y.f0 == 3) = false := by simpa using h3
        have HF := Lib.hid (show refOf y = ⟨y.f3, y.f4, y.f5, 0⟩ by simp [refOf, h3])
        clear h3
        have hO2 := Kd.R_below (Kd.R_below hO.out (below_new wr (.cells #[.int .i64 y.f0, .int .i64 y.f1, .int .i64 y.f2.f0, .int .i64 y.f2.f1, .string y.f2.f2, .bool y.f2.f3, .string y.f3, .int .i64 y.f4, .string y.f5, .slice B9 n9 c9] 31))) (below_new _ (.cells #[.string y.f3, .int .i64 y.f4, .string y.f5, .int .i64 0] 42))
        have hB3 := below_step (below_step hB (below_new wr (.cells #[.int .i64 y.f0, .int .i64 y.f1, .int .i64 y.f2.f0, .int .i64 y.f2.f1, .string y.f2.f2, .bool y.f2.f3, .string y.f3, .int .i64 y.f4, .string y.f5, .slice B9 n9 c9] 31))) (below_new _ (.cells #[.string y.f3, .int .i64 y.f4, .string y.f5, .int .i64 0] 42))
        go_wp2_with (at_builtin; go_must (refine Kd.R_append kRf (w0 := W1) (W := (wr.alloc (.cells #[.int .i64 y.f0, .int .i64 y.f1, .int .i64 y.f2.f0, .int .i64 y.f2.f1, .string y.f2.f2, .bool y.f2.f3, .string y.f3, .int .i64 y.f4, .string y.f5, .slice B9 n9 c9] 31)).alloc (.cells #[.string y.f3, .int .i64 y.f4, .string y.f5, .int .i64 0] 42)) W1.heap.size (by rfl) _ _ 38 42 _ 48 (by rfl) Try.underlying38 infoRf (by rfl) (by decide) (by omega) u3 xs (refOf y) [.string y.f3, .int .i64 y.f4, .string y.f5, .int .i64 0] (fun _ => True) (fun _ => False) (by rfl) (by rw [alloc_size', alloc_size']; rfl) (by rw [HF.out]; exact kRf_mkM _ _ _ _) (fun _ h => h.elim) (fun _ _ => trivial) hO2 hB3 hB3.size hle ?_))
        intro v2 w2 hR2 hB4 hg2 _
        go_wp2_with fail
        go_roundw
        case rel => exact ⟨k + 1, by omega, by go_num, hB4, Lib.hid (by rw [HT.out]; exact hR2)⟩
        case measure => simp [intOf]; omega
    · go_wp2_with fail
      go_ret
      have h := hO.out
      rw [List.take_of_length_le (by omega)] at h
      exact ⟨below_step hB1 hB, _, rfl, Kd.R_lower h hB1.size⟩
end Go.Proofs.Ytgnifglolbfamaa

/- The walk of place.again. -/
set_option linter.unusedVariables false
set_option linter.unusedSimpArgs false
namespace Go.Proofs.Ytgnifglolbfamaa
open Go.RowKit Go.Proofs.YtgnifglolbfamaaW.PrintWords

/-- A reference that looks back. -/
def backAt (r : Rf) : Bool := decide (r.f1 = 3) || decide (r.f1 = 7)
def againOf (x : Ex) : Bool := !(refsOf x).any backAt

theorem atRfN {w : World} {A : Option Addr} {n : Nat} {xs : List Rf} (h : Kd.C kRf w A n xs) (k : Nat) (hk : k < n) (hk' : k < xs.length) : ∃ ad, A = some ad ∧ w.cell? (ad.add (k * 4)) = some (.string xs[k].f0) ∧ w.cell? ⟨(ad.add (k * 4)).block, (ad.add (k * 4)).off + 1, none⟩ = some (.int .i64 xs[k].f1) ∧ w.cell? ⟨(ad.add (k * 4)).block, (ad.add (k * 4)).off + 2, none⟩ = some (.string xs[k].f2) ∧ w.cell? ⟨(ad.add (k * 4)).block, (ad.add (k * 4)).off + 3, none⟩ = some (.int .i64 xs[k].f3) := by
  have h1 := atRf h (k : Int) (by omega) (by omega)
  have h2 : rdRf xs (k : Int) = xs[k] := by simp [rdRf, List.getD_eq_getElem?_getD, List.getElem?_eq_getElem hk']
  simp only [Int.toNat_natCast] at h1
  rw [h2] at h1
  exact h1

theorem any_take_succ {α : Type} (p : α → Bool) (L : List α) (k : Nat) (h : k < L.length) : (L.take (k + 1)).any p = ((L.take k).any p || p L[k]) := by
  rw [List.take_succ_eq_append_getElem h, List.any_append]
  simp

set_option maxHeartbeats 2000000 in
set_option maxRecDepth 100000 in
theorem again_any (x : Ex) (A : Option Addr) (c : Nat) (w : World) (hN : exN x ≤ 100000000000) (hc : x.f6.length ≤ c) (hC : kEx.C w A x.f6.length x.f6) :
    Calls Try.prog 44 #[exV x (.slice A x.f6.length c)] w fun e w' => e = .returned (.bool (againOf x)) ∧ Below w.heap.size w w' := by
  have hp := refs_any x A c (w.alloc (.cells #[.int .i64 x.f0, .int .i64 x.f1, .int .i64 x.f2.f0, .int .i64 x.f2.f1, .string x.f2.f2, .bool x.f2.f3, .string x.f3, .int .i64 x.f4, .string x.f5, .slice A x.f6.length c] 31)) hN hc (Kd.C_below hC (below_new _ _))
  unfold againOf
  generalize refsOf x = L at *
  generalize hb : (!L.any backAt) = b
  have HBB := Lib.hid hb
  clear hN hc hC hb
  unfold exV at hp ⊢
  go_enter Try.func44, Try.ntmps44
  go_wp2_with fail
  refine hp.mono ?_
  rintro e W1 ⟨hb1, v1, rfl, hr1⟩
  obtain ⟨A1, c1, rfl, hc1, hC1⟩ := Kd.R_reads hr1
  have HC := Lib.hid hC1
  have hB1 := below_step (below_new w _) hb1
  have hmx := hC1.2.1
  clear hr1 hC1 hb1 hp
  go_wp2_with fail
  go_loopw [8] (fun t8 wr => ∃ k : Nat, k ≤ L.length ∧ t8 = .int .i64 k ∧ Below W1.heap.size W1 wr ∧ Hid ((L.take k).any backAt = false)) (fun t8 _ => L.length - (intOf t8).toNat)
  case atStart => exact ⟨0, by omega, rfl, Below.refl _ _, Lib.hid rfl⟩
  case round =>
    obtain ⟨k, hk, rfl, hB, hO⟩ := hrel
    have hsz := hB.size
    by_cases hlt : k < L.length
    · obtain ⟨ad, rfl, e0, e1, e2, e3⟩ := atRfN HC.out k hlt hlt
      have i1 : (0 : Int) ≤ (k : Int) := by omega
      have i2 : (k : Int) < L.length := by omega
      have e0 := pw_cell_below hB e0
      have e1 := pw_cell_below hB e1
      have e2 := pw_cell_below hB e2
      have e3 := pw_cell_below hB e3
      have HT := Lib.hid (any_take_succ backAt L k hlt)
      have HL := Lib.hid (show (L.any backAt = true) ∨ backAt L[k] = false by
        by_cases h : backAt L[k] = true
        · exact Or.inl (List.any_eq_true.2 ⟨_, List.getElem_mem hlt, h⟩)
        · exact Or.inr (by simpa using h))
      generalize L[k] = y at *
      have hB2 := below_step hB1 hB
      have hcase : (y.f1 == 3) = true ∨ ((y.f1 == 3) = false ∧ (y.f1 == 7) = true) ∨ ((y.f1 == 3) = false ∧ (y.f1 == 7) = false) := by
        cases (y.f1 == 3) <;> cases (y.f1 == 7) <;> simp
      rcases hcase with d1 | ⟨d1, d2⟩ | ⟨d1, d2⟩
      iterate 2
        · have HF := Lib.hid (show backAt y = true by simp [backAt]; simp at *; omega)
          go_wp2_with fail
          go_ret
          refine ⟨?_, below_step hB2 (below_new _ _)⟩
          rcases HL.out with h | h
          · rw [← HBB.out, h]; rfl
          · rw [HF.out] at h; cases h
      · have HF := Lib.hid (show backAt y = false by simp [backAt]; simp at *; omega)
        go_wp2_with fail
        go_roundw
        case rel => exact ⟨k + 1, by omega, by go_num, below_step hB (below_new _ _), Lib.hid (by rw [HT.out, hO.out, HF.out]; rfl)⟩
        case measure => simp [intOf]; omega
    · go_wp2_with fail
      go_ret
      have h := hO.out
      rw [List.take_of_length_le (by omega)] at h
      refine ⟨?_, below_step hB1 hB⟩
      rw [← HBB.out, h]; rfl
end Go.Proofs.Ytgnifglolbfamaa

/- A map of names to whole numbers that the call itself has made. -/
set_option linter.unusedVariables false
set_option linter.unusedSimpArgs false
namespace Go.Proofs.Ytgnifglolbfamaa
open Go.RowKit Go.Proofs.YtgnifglolbfamaaW.PrintWords

theorem keyOf_name (s : ByteArray) (hs : s.size ≤ maxLen) : keyOf Try.prog 9 (.string s) = some (.string s.data.toList) := by
  simp [keyOf, mapKey, Try.underlying9, hs]
theorem zero3 (w : World) : (zeroValue 3).run Try.prog w = .ok (.int .i64 0) w :=
  (zero_of_info (P := Try.prog) (t := 3) (v := .int .i64 0) (n := 1) (by kernel_rfl)).1 w

/-- Block b is a map of at most n names that reads as f. -/
def KeyMap (w : World) (b n : Nat) (f : List UInt8 → Option Int) : Prop :=
  ∃ D : DataW Unit, w.ownsMap Try.prog 9 (plainElem Try.prog 3) b n D ∧ Maps.IsMap D ∧ ∀ s, Maps.has D (.string s) = (f s).isSome ∧ D.atKey (.string s) (.lit (.int .i64 0)) = .lit (.int .i64 ((f s).getD 0))

theorem KeyMap.made (w : World) : KeyMap (w.alloc (.map #[] 0)) w.heap.size 0 (fun _ => none) :=
  ⟨.map [], World.ownsMap_made w _ _ _, Maps.isMap_empty, fun s => ⟨rfl, rfl⟩⟩
theorem KeyMap.lt {w : World} {b n : Nat} {f} (h : KeyMap w b n f) : b < w.heap.size := by obtain ⟨D, h, _⟩ := h; exact h.lt
theorem KeyMap.kept {w w' : World} {b n : Nat} {f} {row : Option Nat} (h : KeyMap w b n f) (hg : w.grownBy w' row) (hne : some b ≠ row) : KeyMap w' b n f := by
  obtain ⟨D, h, r⟩ := h
  exact ⟨D, h.kept hg hne, r⟩
theorem KeyMap.below {w w' : World} {b n : Nat} {f} (h : KeyMap w b n f) (hb : Below w.heap.size w w') : KeyMap w' b n f := h.kept (grown_of_below hb none) (by simp)
theorem KeyMap.set {w : World} {b n : Nat} {f} (h : KeyMap w b n f) {p : Addr} (hp : b ≠ p.block) (v : Value) : KeyMap (w.setCell p v) b n f := by
  obtain ⟨D, ⟨es, clock, hb, r⟩, r2⟩ := h
  exact ⟨D, ⟨es, clock, (Below.heap_setCell w p v b hp).trans hb, r⟩, r2⟩
theorem KeyMap.ok {w : World} {b n : Nat} {f} (h : KeyMap w b n f) (s : ByteArray) (hs : s.size ≤ maxLen) :
    (Instr.lookup 122 (.map (some b)) (.string s) true).run Try.prog w = .ok (.tuple #[.int .i64 ((f s.data.toList).getD 0), .bool (f s.data.toList).isSome]) w := by
  obtain ⟨D, h, _, hf⟩ := h
  obtain ⟨v, ps, hrun, hv⟩ := h.look_ok (Maps.string_keyed Try.underlying9) Try.underlying122 (zero3 w) (plainElem_int Try.underlying3 (by decide)) (keyOf_name s hs)
  obtain ⟨c, rfl, hc, hwc⟩ := plainElem_int_inv Try.underlying3 hv
  simp only [Prod.mk.injEq] at hc
  rw [(hf _).1] at hrun
  rw [(hf _).2] at hc
  obtain rfl : (f s.data.toList).getD 0 = c := by
    have := hc.1
    simpa using this
  exact hrun
theorem KeyMap.at_ {w : World} {b n : Nat} {f} (h : KeyMap w b n f) (s : ByteArray) (hs : s.size ≤ maxLen) :
    (Instr.lookup 122 (.map (some b)) (.string s) false).run Try.prog w = .ok (.int .i64 ((f s.data.toList).getD 0)) w := by
  obtain ⟨D, h, _, hf⟩ := h
  obtain ⟨c, hrun, hc, hwc⟩ := h.lookup_int (Maps.string_keyed Try.underlying9) Try.underlying122 Try.underlying3 (zero3 w) (keyOf_name s hs)
  rw [(hf _).2] at hc
  obtain rfl : (f s.data.toList).getD 0 = c := by simpa using hc
  exact hrun
theorem KeyMap.put {w : World} {b n : Nat} {f} (h : KeyMap w b n f) (hn : n < maxLen) (s : ByteArray) (hs : s.size ≤ maxLen) (x : Int) (hx : (Lit.int .i64 x).wf = true) :
    ∃ w', (Instr.mapUpdate 122 (.map (some b)) (.string s) (.int .i64 x)).run Try.prog w = .ok () w' ∧ KeyMap w' b (n + 1) (fun t => if t = s.data.toList then some x else f t) ∧ w.grownBy w' (some b) := by
  obtain ⟨D, h, hm, hf⟩ := h
  obtain ⟨w', hrun, ho, hg⟩ := h.update (Maps.string_keyed Try.underlying9) Try.underlying122 hn (keyOf_name s hs) (plainElem_int (H := Unit) Try.underlying3 hx)
  refine ⟨w', hrun, ⟨_, ho, hm.put _ _, fun t => ?_⟩, hg⟩
  by_cases ht : t = s.data.toList
  · subst ht
    simp only [if_true]
    exact ⟨Maps.has_put_same hm (show WideAt.IsKeyLit (.string s.data.toList) from trivial) _, Maps.atKey_put_same hm (show WideAt.IsKeyLit (.string s.data.toList) from trivial) _ _⟩
  · have hne : (Lit.string t) ≠ .string s.data.toList := by simpa using ht
    simp only [if_neg ht]
    rw [Maps.has_put_other hne, Maps.atKey_put_other hne]
    exact hf t
end Go.Proofs.Ytgnifglolbfamaa

/- The walk of place.patternOf. -/
set_option linter.unusedVariables false
set_option linter.unusedSimpArgs false
namespace Go.Proofs.Ytgnifglolbfamaa
open Go.RowKit Go.Proofs.YtgnifglolbfamaaW.PrintWords

theorem infoCp : (Try.prog.info? 46).map (fun i => (i.zero, i.size, i.bytes)) = some (some (.agg #[.bool false, .bool false, .string ⟨#[]⟩, .string ⟨#[]⟩]), 4, 40) := by kernel_rfl
theorem infoInt : (Try.prog.info? 3).map (fun i => (i.zero, i.size, i.bytes)) = some (some (.int .i64 0), 1, 8) := by kernel_rfl

/-- The component of a name. -/
def vix : List Cp → List UInt8 → Option Int
  | [], _ => none
  | c :: cs, s => if s = c.f3.data.toList then some 0 else (vix cs s).map (· + 1)
/-- How many positive ones stand in a list. -/
def stg : List Cp → Nat
  | [] => 0
  | c :: cs => (if c.f0 then 0 else 1) + stg cs
def stgs (cs : List Cp) : List Int := (List.range cs.length).map fun i => (stg (cs.take i) : Int)
def dup : List Cp → Bool
  | [] => false
  | c :: cs => (vix cs c.f3.data.toList).isSome || dup cs
def negAt (cs : List Cp) (i : Nat) : Bool := (cs.getD i zCp).f0
def patErr (cs : List Cp) : Int :=
  if cs.length < 1 ∨ 8 < cs.length then 2 else if dup cs then 80 else if negAt cs 0 || negAt cs (cs.length - 1) then 84 else 0

theorem stg_append : ∀ a b : List Cp, stg (a ++ b) = stg a + stg b
  | [], b => by simp [stg]
  | x :: a, b => by simp only [List.cons_append, stg, stg_append a b]; omega
theorem stg_len : ∀ a : List Cp, stg a ≤ a.length
  | [] => by simp [stg]
  | x :: a => by have := stg_len a; simp only [stg, List.length_cons]; split <;> omega
theorem vix_snoc : ∀ (a : List Cp) (c : Cp) (s : List UInt8), vix (a ++ [c]) s = (vix a s).or (if s = c.f3.data.toList then some (a.length : Int) else none)
  | [], c, s => by simp only [List.nil_append, vix, Option.none_or]; split <;> simp
  | x :: a, c, s => by
    simp only [List.cons_append, vix, vix_snoc a c s]
    split
    · rfl
    · cases vix a s
      · simp only [Option.map_none, Option.none_or]
        split <;> simp
      · simp
theorem dup_snoc : ∀ (a : List Cp) (c : Cp), dup (a ++ [c]) = (dup a || (vix a c.f3.data.toList).isSome)
  | [], c => by simp [dup, vix]
  | x :: a, c => by
    simp only [List.cons_append, dup, vix_snoc, dup_snoc a c, vix]
    by_cases h : x.f3.data.toList = c.f3.data.toList
    · rw [if_pos h, if_pos h.symm]
      simp
    · rw [if_neg h, if_neg (fun e => h e.symm)]
      simp only [Option.or_none, Option.isSome_map]
      cases (vix a x.f3.data.toList).isSome <;> simp
theorem vix_more : ∀ (a b : List Cp) (s : List UInt8), (vix a s).isSome = true → (vix (a ++ b) s).isSome = true
  | [], b, s, h => by simp [vix] at h
  | x :: a, b, s, h => by
    simp only [List.cons_append, vix] at h ⊢
    split
    · rfl
    · rename_i hn
      rw [if_neg hn] at h
      simpa using vix_more a b s (by simpa using h)
theorem dup_prefix : ∀ (a b : List Cp), dup a = true → dup (a ++ b) = true
  | [], b, h => by simp [dup] at h
  | x :: a, b, h => by
    simp only [List.cons_append, dup, Bool.or_eq_true] at h ⊢
    rcases h with h | h
    · exact Or.inl (vix_more a b _ h)
    · exact Or.inr (dup_prefix a b h)

theorem stgs_snoc (a : List Cp) (c : Cp) : stgs (a ++ [c]) = stgs a ++ [(stg a : Int)] := by
  unfold stgs
  rw [List.length_append, List.length_singleton, List.range_succ, List.map_append]
  congr 1
  · apply List.map_congr_left
    intro i hi
    rw [List.take_append_of_le_length (by have := List.mem_range.1 hi; omega)]
  · simp
theorem vix_put (a : List Cp) (c : Cp) (h : none = vix a c.f3.data.toList) : vix (a ++ [c]) = fun t => if t = c.f3.data.toList then some (a.length : Int) else vix a t := by
  funext t
  rw [vix_snoc]
  by_cases ht : t = c.f3.data.toList
  · subst ht; rw [← h]; simp
  · simp [ht]

theorem atCpN {w : World} {A : Option Addr} {n : Nat} {xs : List Cp} (h : Kd.C kCp w A n xs) (k : Nat) (hk : k < n) (hk' : k < xs.length) : ∃ ad, A = some ad ∧ w.cell? (ad.add (k * 4)) = some (.bool xs[k].f0) ∧ w.cell? ⟨(ad.add (k * 4)).block, (ad.add (k * 4)).off + 1, none⟩ = some (.bool xs[k].f1) ∧ w.cell? ⟨(ad.add (k * 4)).block, (ad.add (k * 4)).off + 2, none⟩ = some (.string xs[k].f2) ∧ w.cell? ⟨(ad.add (k * 4)).block, (ad.add (k * 4)).off + 3, none⟩ = some (.string xs[k].f3) := by
  have h1 := atCp h (k : Int) (by omega) (by omega)
  have h2 : rdCp xs (k : Int) = xs[k] := by simp [rdCp, List.getD_eq_getElem?_getD, List.getElem?_eq_getElem hk']
  simp only [Int.toNat_natCast] at h1
  rw [h2] at h1
  exact h1

section
variable {ops : Array Oper} {o : Oper} {a : Act} {Q : Exit → Act → World → Prop} {K : Act → World → Prop} {E : Prop}
/-- append(stages, i), as a step of a region that draws its order. -/
theorem step_num {w0 W : World} (base : Nat) (hgd : o.guard = none) (s x : Operand) (ho : o.op = .call { callee := .builtin .append, args := #[s, x], argTypes := #[59, 59] })
    (v : Value) (xs : List Int) (i : Int) (ok : Nat → Prop) (hfresh : ∀ k, W.heap.size ≤ k → ok k) (hs : a.eval s = v) (hx : a.eval x = .slice (some ⟨W.heap.size, 0, none⟩) 1 1)
    (HO : (Kd.int .i64).R 3 W base ok v xs) (HB : Below base w0 W) (hbase : base ≤ W.heap.size) (hl : (xs.length + 1) * 8 ≤ 140737488355328)
    (h : ∀ v1 w1, (Kd.int .i64).R 3 w1 base ok v1 (xs ++ [i]) → Below base w0 w1 → W.grownBy w1 v.ownBlock → K (a.put o.dst v1) w1) :
    if Region.wanted o (yielded ops a.tmps) = true then Oper.wp Try.prog o a (W.alloc (.cells #[.int .i64 i] 3)).drew K Q else E := by
  have hw : Region.wanted o (yielded ops a.tmps) = true := by simp [Region.wanted, hgd]
  have := Kd.R_append_step (P := Try.prog) (ops := ops) (o := o) (a := a) (Q := Q) (Kc := K) (Kd.int .i64) (w0 := w0) (W := W.drew) base hw s x 59 3 (.int .i64 0) 8 ho Try.underlying59 infoInt rfl (by decide) (by omega) v xs i [.int .i64 i] ok (fun _ => False) hs hx rfl (fun _ h => h.elim) hfresh (Kd.R_below HO (below_drew (Below.refl _ _))) (below_drew HB) hbase hl
    (fun v1 w1 h1 h2 h3 _ => h v1 w1 h1 h2 ⟨h3.os, h3.tape, h3.output, h3.size, h3.block⟩)
  rw [if_pos hw] at this ⊢
  exact this
/-- m[s] = i, as a step of a region that draws its order. -/
theorem step_mapput {W : World} (hgd : o.guard = none) (m x v : Operand) (ho : o.op = .mapUpdate 122 m x v) {b n : Nat} {f : List UInt8 → Option Int} (hm : a.eval m = .map (some b)) (s : ByteArray) (hx : a.eval x = .string s) (i : Int) (hv : a.eval v = .int .i64 i)
    (hs : s.size ≤ maxLen) (hi : (Lit.int .i64 i).wf = true) (hn : n < maxLen) (HM : KeyMap W b n f)
    (h : ∀ w1, KeyMap w1 b (n + 1) (fun t => if t = s.data.toList then some i else f t) → W.grownBy w1 (some b) → K (a.put o.dst undef) w1) :
    if Region.wanted o (yielded ops a.tmps) = true then Oper.wp Try.prog o a W K Q else E := by
  have hw : Region.wanted o (yielded ops a.tmps) = true := by simp [Region.wanted, hgd]
  rw [if_pos hw]
  obtain ⟨w1, hrun, hk, hg⟩ := HM.put hn s hs i hi
  unfold Oper.wp
  simp [execOp, ho, hm, hx, hv, hrun, Result.andThen]
  exact h w1 hk hg
end

/-- Block gp is a pattern of these components. -/
structure PatAt (w : World) (gp : Nat) (A : Option Addr) (c : Nat) (cs : List Cp) : Prop where
  le : cs.length ≤ c
  names : ∀ x ∈ cs, x.f3.size ≤ maxLen
  reads : kCp.C w A cs.length cs
  rest : ∃ gm v2, w.heap[gp]? = some (.cells #[.slice A cs.length c, .map (some gm), v2, .int .i64 (stg cs)] 124 (0, 0)) ∧ KeyMap w gm cs.length (vix cs) ∧ ∃ base, (Kd.int .i64).R 3 w base (fun _ => True) v2 (stgs cs)

def PatPost (cs : List Cp) (A : Option Addr) (c : Nat) (w : World) (e : Ending) (w' : World) : Prop :=
  Below w.heap.size w w' ∧ ((patErr cs ≠ 0 ∧ e = .returned (.tuple #[.pointer none, .int .i64 (patErr cs)])) ∨
    (patErr cs = 0 ∧ ∃ gp, e = .returned (.tuple #[.pointer (some ⟨gp, 0, none⟩), .int .i64 0]) ∧ w.heap.size ≤ gp ∧ PatAt w' gp A c cs))

set_option maxHeartbeats 2000000 in
set_option maxRecDepth 100000 in
theorem patternOf_any (cs : List Cp) (A : Option Addr) (c : Nat) (q1 : ByteArray) (q2 : Int) (v3 v4 : Value) (q5 : Int) (q6 : ByteArray) (v7 : Value) (h3 : v3.oneCell' = true) (h4 : v4.oneCell' = true) (h7 : v7.oneCell' = true) (w : World)
    (hc : cs.length ≤ c) (hC : kCp.C w A cs.length cs) (hnm : ∀ x ∈ cs, x.f3.size ≤ maxLen) :
    Calls Try.prog 38 #[.agg #[.slice A cs.length c, .string q1, .int .i64 q2, v3, v4, .int .i64 q5, .string q6, v7]] w (PatPost cs A c w) := by
  have hmx := hC.2.1
  by_cases h1 : cs.length < 1
  · have HE := Lib.hid (show patErr cs = 2 by rw [patErr, if_pos (Or.inl h1)])
    have d1 : decide ((cs.length : Int) < 1) = true := by simp; omega
    have hz : cs.length = 0 := by omega
    clear h1
    go_enter Try.func38, Try.ntmps38
    go_wp2_with fail
    go_ret2
    exact ⟨below_new _ _, Or.inl ⟨by rw [HE.out]; decide, by rw [HE.out]; rfl⟩⟩
  · by_cases h8 : 8 < cs.length
    · have HE := Lib.hid (show patErr cs = 2 by rw [patErr, if_pos (Or.inr h8)])
      have d1 : decide ((cs.length : Int) < 1) = false := by simp; omega
      have d2 : decide ((cs.length : Int) > 8) = true := by simp; omega
      clear h1
      go_enter Try.func38, Try.ntmps38
      go_wp2_with fail
      go_ret2
      exact ⟨below_new _ _, Or.inl ⟨by rw [HE.out]; decide, by rw [HE.out]; rfl⟩⟩
    · have HE := Lib.hid (show patErr cs = if dup cs then 80 else if negAt cs 0 || negAt cs (cs.length - 1) then 84 else 0 by rw [patErr, if_neg (by omega)])
      have d1 : decide ((cs.length : Int) < 1) = false := by simp; omega
      have d2 : decide ((cs.length : Int) > 8) = false := by simp; omega
      have HC := Lib.hid hC
      have HNM := Lib.hid hnm
      clear hC hnm
      have hmk := fun W => run_makeMap (P := Try.prog) 122 W
      go_enter Try.func38, Try.ntmps38
      go_wp2_with fail
      clear hmk
      have hB0 := below_step (below_step (below_new w (.cells #[.slice A cs.length c, .string q1, .int .i64 q2, v3, v4, .int .i64 q5, .string q6, v7] 27)) (below_new _ (.map #[] 0))) (below_new _ (.cells #[.slice A cs.length c, .map (some (w.heap.size + 1)), .slice none 0 0, .int .i64 0] 124))
      go_loopw [27] (fun t27 wr => ∃ k : Nat, k ≤ cs.length ∧ t27 = .int .i64 k ∧ Below w.heap.size w wr ∧ ∃ v2, Hid (wr.heap[w.heap.size + 1 + 1]? = some (.cells #[.slice A cs.length c, .map (some (w.heap.size + 1)), v2, .int .i64 (stg (cs.take k))] 124 (0, 0))) ∧ Hid (KeyMap wr (w.heap.size + 1) k (vix (cs.take k))) ∧ Hid ((Kd.int .i64).R 3 wr w.heap.size (fun b => b ≠ w.heap.size ∧ b ≠ w.heap.size + 1 ∧ b ≠ w.heap.size + 1 + 1) v2 (stgs (cs.take k))) ∧ Hid (dup (cs.take k) = false) ∧ Hid (wr.heap[w.heap.size]? = some (.cells #[.slice A cs.length c, .string q1, .int .i64 q2, v3, v4, .int .i64 q5, .string q6, v7] 27 (0, 0)))) (fun t27 _ => cs.length - (intOf t27).toNat)
      case atStart =>
        have hg2 : ((w.alloc (.cells #[.slice A cs.length c, .string q1, .int .i64 q2, v3, v4, .int .i64 q5, .string q6, v7] 27)).alloc (.map #[] 0)).heap.size = w.heap.size + 1 + 1 := by rw [alloc_size', alloc_size']
        have hP0 := blk_new ((w.alloc (.cells #[.slice A cs.length c, .string q1, .int .i64 q2, v3, v4, .int .i64 q5, .string q6, v7] 27)).alloc (.map #[] 0)) (.cells #[.slice A cs.length c, .map (some (w.heap.size + 1)), .slice none 0 0, .int .i64 0] 124)
        rw [hg2] at hP0
        have hM0 := KeyMap.made (w.alloc (.cells #[.slice A cs.length c, .string q1, .int .i64 q2, v3, v4, .int .i64 q5, .string q6, v7] 27))
        rw [alloc_size'] at hM0
        exact ⟨0, by omega, rfl, hB0, _, Lib.hid hP0, Lib.hid (hM0.below (below_new _ _)), Lib.hid (Kd.R_nil _ _ _ _ _), Lib.hid rfl, Lib.hid (blk_alloc (blk_alloc (blk_new w _) _) _)⟩
      case round =>
        obtain ⟨k, hk, rfl, hB, v2, hP, hM, hR, hD, hQ⟩ := hrel
        have hsz := hB.size
        by_cases hlt : k < cs.length
        · have hat := atCpN HC.out k hlt hlt
          obtain ⟨ad, rfl, e0, e1, e2, e3⟩ := hat
          have i1 : (0 : Int) ≤ (k : Int) := by omega
          have i2 : (k : Int) < cs.length := by omega
          have e0 := pw_cell_below hB e0
          have e1 := pw_cell_below hB e1
          have e2 := pw_cell_below hB e2
          have e3 := pw_cell_below hB e3
          have HN := Lib.hid (HNM.out _ (List.getElem_mem hlt))
          have HT := Lib.hid (List.take_succ_eq_append_getElem hlt)
          generalize cs[k] = y at *
          have hp0 := (blk_cell hP.out 0).trans rfl
          have hp1 := (blk_cell hP.out 1).trans rfl
          have hp2 := (blk_cell hP.out 2).trans rfl
          have hp3 := (blk_cell hP.out 3).trans rfl
          have hl1 := blk_lt hP.out
          have hne1 : w.heap.size + 1 + 1 ≠ wr.heap.size := by omega
          have hq0 := pw_cell_below (below_new wr (.cells #[.bool y.f0, .bool y.f1, .string y.f2, .string y.f3] 46)) hp0
          have hq1 := pw_cell_below (below_new wr (.cells #[.bool y.f0, .bool y.f1, .string y.f2, .string y.f3] 46)) hp1
          have hq2 := pw_cell_below (below_new wr (.cells #[.bool y.f0, .bool y.f1, .string y.f2, .string y.f3] 46)) hp2
          have hq3 := pw_cell_below (below_new wr (.cells #[.bool y.f0, .bool y.f1, .string y.f2, .string y.f3] 46)) hp3
          have hM1 := hM.out.below (below_new wr (.cells #[.bool y.f0, .bool y.f1, .string y.f2, .string y.f3] 46))
          have hlk := fun nq => (hM1.below (pw_below_drewN (Below.refl _ _) nq)).ok y.f3 HN.out
          obtain ⟨r, hr⟩ : ∃ r, r = vix (cs.take k) y.f3.data.toList := ⟨_, rfl⟩
          simp only [← hr] at hlk
          have HV := Lib.hid hr
          clear hr
          cases r with
          | some i =>
            simp only [Option.getD_some, Option.isSome_some] at hlk
            go_wp2_with fail
            go_quiet (fail)
            go_wp2_with fail
            go_ret2
            have hd : dup cs = true := by
              rw [← List.take_append_drop (k + 1) cs]
              apply dup_prefix
              rw [HT.out, dup_snoc, ← HV.out]
              simp
            refine ⟨below_step hB (pw_below_drewN (below_new _ _) _), Or.inl ?_⟩
            rw [HE.out, hd, if_pos rfl]
            exact ⟨by decide, rfl⟩
          | none =>
            simp only [Option.getD_none, Option.isSome_none] at hlk
            go_wp2_with fail
            go_quiet (fail)
            go_wp2_with fail
            have hB2 : Below wr.heap.size wr ((wr.alloc (.cells #[.bool y.f0, .bool y.f1, .string y.f2, .string y.f3] 46)).drewN nq) := pw_below_drewN (below_new _ _) _
            have hv : ((wr.alloc (.cells #[.bool y.f0, .bool y.f1, .string y.f2, .string y.f3] 46)).drewN nq).heap[wr.heap.size]? = some (.cells #[.bool y.f0, .bool y.f1, .string y.f2, .string y.f3] 46 (0, 0)) := blk_drewN (blk_new _ _) _
            clear hp0 hp1 hp2 hp3 hq0 hq1 hq2 hq3 hM1 hlk e0 e1 e2 e3
            generalize (wr.alloc (.cells #[.bool y.f0, .bool y.f1, .string y.f2, .string y.f3] 46)).drewN nq = W2 at *
            have hP2 := blk_below hP.out hB2
            have hM2 := Lib.hid (hM.out.below hB2)
            have hR2 := Lib.hid (Kd.R_below hR.out hB2)
            have hp1 := (blk_cell hP2 1).trans rfl
            have hv3 := (blk_cell hv 3).trans rfl
            have m1 : IntKind.i64.min ≤ 0 := by decide
            have m2 : (1000 : Int) ≤ IntKind.i64.max := by decide
            have hwf : (Lit.int .i64 (k : Int)).wf = true := by simp [Lit.wf]; omega
            clear m1 m2
            have hkm : k < maxLen := by simp [maxLen]; omega
            obtain ⟨w3, hmu, hM3, hg3⟩ := KeyMap.put (hM2.out.below (below_drew (Below.refl _ _))) hkm y.f3 HN.out (k : Int) hwf
            have HM3 := Lib.hid hM3
            have HG3 := Lib.hid hg3
            clear hM3 hg3
            go_region
            have hB3 : Below w.heap.size w w3 := (below_drew (below_step hB hB2)).grown HG3.out (by show w.heap.size ≤ W2.heap.size; exact (below_step hB hB2).size) (by intro j hj; injection hj with hj; omega)
            have hP3 := blk_grown (show W2.drew.heap[w.heap.size + 1 + 1]? = _ from hP2) HG3.out (by simp)
            have hv' := blk_grown (show W2.drew.heap[wr.heap.size]? = _ from hv) HG3.out (by simp; omega)
            have hR3 := Lib.hid (Kd.R_grown (Kd.R_below hR2.out (below_drew (Below.refl _ _))) HG3.out (by intro j hj; simp; exact hj.2.1))
            have hsz3 := hB3.size
            have hl3 := blk_lt hv'
            clear hp1 hv3 hmu
            have hp2 := (blk_cell hP3 2).trans rfl
            have hp3 := (blk_cell hP3 3).trans rfl
            have hf2 := blk_frozen hP3 2
            have hv0 := (blk_cell hv' 0).trans rfl
            have hle : ((stgs (cs.take k)).length + 1) * 8 ≤ 140737488355328 := by simp [stgs]; omega
            have hfr : ∀ j, w3.heap.size ≤ j → j ≠ w.heap.size ∧ j ≠ w.heap.size + 1 ∧ j ≠ w.heap.size + 1 + 1 := by intro j hj; omega
            have hq2 := pw_cell_below (below_new w3 (.cells #[.int .i64 (stg (cs.take k))] 3)) hp2
            have hq3 := pw_cell_below (below_new w3 (.cells #[.int .i64 (stg (cs.take k))] 3)) hp3
            have hl4 : w.heap.size + 1 + 1 < w3.heap.size := blk_lt hP3
            have hne4 : w.heap.size + 1 + 1 ≠ w3.heap.size := by omega
            have HLE := Lib.hid hle
            have HFR := Lib.hid hfr
            have HNE := Lib.hid (show some (w.heap.size + 1 + 1) ≠ v2.ownBlock by intro he; exact (hR3.out.1 _ he.symm).2.2 rfl)
            have HNM2 := Lib.hid (show some (w.heap.size + 1) ≠ v2.ownBlock by intro he; exact (hR3.out.1 _ he.symm).2.1 rfl)
            have HNQ := Lib.hid (show some w.heap.size ≠ v2.ownBlock by intro he; exact (hR3.out.1 _ he.symm).1 rfl)
            have hQ3 := Lib.hid (blk_grown (blk_drew (blk_below hQ.out hB2)) HG3.out (by simp))
            have HNV := Lib.hid (show some wr.heap.size ≠ v2.ownBlock by intro he; obtain ⟨inner, ho⟩ := Kd.R_own hR.out; have := own_lt ho _ he.symm; omega)
            clear hle hfr
            go_wp2_with fail
            go_region_law ((refine step_num (W := w3) (w0 := w) w.heap.size (by rfl) _ _ (by rfl) v2 (stgs (cs.take k)) (stg (cs.take k) : Int) _ HFR.out (by rfl) (by rfl) hR3.out hB3 hsz3 HLE.out ?_; intro v5 w5 hR5 hB5 hg5; have hR5 := Lib.hid hR5; have hG5 := Lib.hid hg5; obtain ⟨A5, c5, rfl⟩ := Kd.R_slice hR5.out; have hP5 := blk_grown hP3 hG5.out HNE.out; have hp2' := (blk_cell hP5 2).trans rfl; have hp3' := (blk_cell hP5 3).trans rfl; have hf5 := blk_frozen hP5 2))
            all_goals
              have hR5' := hR5.out
              rw [List.length_append, List.length_singleton] at hR5'
              have hM5 := KeyMap.kept HM3.out hG5.out HNM2.out
              have hv5 := blk_grown hv' hG5.out HNV.out
              have hP6 := blk_set hP5 2 (.slice A5 ((stgs (cs.take k)).length + 1) c5)
              have hM6 := Lib.hid (hM5.set (p := ⟨w.heap.size + 1 + 1, 2, none⟩) (by show w.heap.size + 1 ≠ w.heap.size + 1 + 1; omega) (.slice A5 ((stgs (cs.take k)).length + 1) c5))
              have hB6 := hB5.setCell (p := ⟨w.heap.size + 1 + 1, 2, none⟩) (by show w.heap.size ≤ w.heap.size + 1 + 1; omega) (.slice A5 ((stgs (cs.take k)).length + 1) c5)
              have hR6 := Lib.hid (Kd.R_far hR5' (p := ⟨w.heap.size + 1 + 1, 2, none⟩) (fun j hj => hj.2.2) (.slice A5 ((stgs (cs.take k)).length + 1) c5))
              have hv6 := (Below.heap_setCell w5 ⟨w.heap.size + 1 + 1, 2, none⟩ (.slice A5 ((stgs (cs.take k)).length + 1) c5) wr.heap.size (by show wr.heap.size ≠ w.heap.size + 1 + 1; omega)).trans hv5
              have hQ6 := Lib.hid ((Below.heap_setCell w5 ⟨w.heap.size + 1 + 1, 2, none⟩ (.slice A5 ((stgs (cs.take k)).length + 1) c5) w.heap.size (by show w.heap.size ≠ w.heap.size + 1 + 1; omega)).trans (blk_grown hQ3.out hG5.out HNQ.out))
              clear hp2 hp3 hq2 hq3 hv0 hf2 hp2' hp3' hf5 hP5 hM5 hv5 hB5 hR5' hR5
              generalize w5.setCell ⟨w.heap.size + 1 + 1, 2, none⟩ (.slice A5 ((stgs (cs.take k)).length + 1) c5) = W6 at *
              replace hP6 : W6.heap[w.heap.size + 1 + 1]? = some (.cells #[.slice (some ad) cs.length c, .map (some (w.heap.size + 1)), .slice A5 ((stgs (cs.take k)).length + 1) c5, .int .i64 (stg (cs.take k))] 124 (0, 0)) := hP6
              have hp3 := (blk_cell hP6 3).trans rfl
              have hf3 := blk_frozen hP6 3
              have hv0 := (blk_cell hv6 0).trans rfl
              have htl : (cs.take k).length = k := by rw [List.length_take]; omega
              have H1 := Lib.hid (show vix (cs.take (k + 1)) = fun t => if t = y.f3.data.toList then some (k : Int) else vix (cs.take k) t by rw [HT.out, vix_put _ _ HV.out, htl])
              have H2 := Lib.hid (show stgs (cs.take (k + 1)) = stgs (cs.take k) ++ [(stg (cs.take k) : Int)] by rw [HT.out, stgs_snoc])
              have H3 := Lib.hid (show dup (cs.take (k + 1)) = false by rw [HT.out, dup_snoc, hD.out, ← HV.out]; rfl)
              have H4 := Lib.hid (show stg (cs.take (k + 1)) = stg (cs.take k) + (if y.f0 then 0 else 1) by rw [HT.out, stg_append]; simp [stg])
              have hsl := stg_len (cs.take k)
              rw [htl] at hsl
              clear htl
              generalize stg (cs.take k) = s0 at *
              cases hy : y.f0 with
              | true =>
                rw [hy] at hv0
                have H5 := Lib.hid (show stg (cs.take (k + 1)) = s0 by rw [H4.out, hy]; simp)
                clear hy
                go_wp2_with fail
                go_roundw
                case rel => exact ⟨k + 1, by omega, by go_num, hB6, _, Lib.hid (by rw [H5.out]; exact hP6), Lib.hid (by rw [H1.out]; exact hM6.out), Lib.hid (by rw [H2.out]; exact hR6.out), H3, hQ6⟩
                case measure => simp [intOf]; omega
              | false =>
                rw [hy] at hv0
                have H5 := Lib.hid (show stg (cs.take (k + 1)) = s0 + 1 by rw [H4.out, hy]; simp)
                clear hy
                go_wp2_with fail
                go_roundw
                case rel =>
                  refine ⟨k + 1, by omega, by go_num, hB6.setCell (p := ⟨w.heap.size + 1 + 1, 3, none⟩) (by show w.heap.size ≤ w.heap.size + 1 + 1; omega) _, _, Lib.hid ?_, Lib.hid (by rw [H1.out]; exact hM6.out.set (p := ⟨w.heap.size + 1 + 1, 3, none⟩) (by show w.heap.size + 1 ≠ w.heap.size + 1 + 1; omega) _), Lib.hid (by rw [H2.out]; exact Kd.R_far hR6.out (p := ⟨w.heap.size + 1 + 1, 3, none⟩) (fun j hj => hj.2.2) _), H3, Lib.hid ((Below.heap_setCell W6 ⟨w.heap.size + 1 + 1, 3, none⟩ _ w.heap.size (by show w.heap.size ≠ w.heap.size + 1 + 1; omega)).trans hQ6.out)⟩
                  rw [H5.out, show ((s0 + 1 : Nat) : Int) = (s0 : Int) + 1 from by omega]
                  exact blk_set hP6 3 (.int .i64 ((s0 : Int) + 1))
                case measure => simp [intOf]; omega
        · obtain rfl : k = cs.length := by omega
          rw [List.take_length] at hP hM hR hD
          obtain ⟨m, hm⟩ : ∃ m, cs.length = m + 1 := ⟨cs.length - 1, by omega⟩
          obtain ⟨ad, rfl, a0, _, _, _⟩ := atCpN HC.out 0 (by omega) (by omega)
          have hq0 := (blk_cell hQ.out 0).trans rfl
          obtain ⟨ad', hae, b0, _, _, _⟩ := atCpN HC.out m (by omega) (by omega)
          cases hae
          have a0 := pw_cell_below hB a0
          have b0 := pw_cell_below hB b0
          have ha : ad.add 0 = ad := by simp [Addr.add]
          rw [Nat.zero_mul, ha] at a0
          have HN0 := Lib.hid (show negAt cs 0 = cs[0].f0 by simp [negAt, List.getD_eq_getElem?_getD, List.getElem?_eq_getElem (show 0 < cs.length by omega)])
          have HNm := Lib.hid (show negAt cs (cs.length - 1) = cs[m].f0 by simp [negAt, hm, List.getD_eq_getElem?_getD, List.getElem?_eq_getElem (show m < cs.length by omega)])
          generalize cs[0].f0 = n0 at *
          generalize cs[m].f0 = nm at *
          have i0 : (0 : Int) < cs.length := by omega
          have i1 : (0 : Int) ≤ (m : Int) := by omega
          have i2 : (m : Int) < cs.length := by omega
          have i3 : (cs.length : Int) - 1 = (m : Int) := by omega
          have HE2 := Lib.hid (show patErr cs = if n0 || nm then 84 else 0 by rw [HE.out, hD.out, HN0.out, HNm.out]; rfl)
          cases n0 with
          | true =>
            go_wp2_with fail
            go_ret2
            exact ⟨hB, Or.inl ⟨by rw [HE2.out]; simp, by rw [HE2.out]; simp⟩⟩
          | false =>
            cases nm with
            | true =>
              go_wp2_with fail
              go_ret2
              exact ⟨hB, Or.inl ⟨by rw [HE2.out]; simp, by rw [HE2.out]; simp⟩⟩
            | false =>
              go_wp2_with fail
              go_ret2
              exact ⟨hB, Or.inr ⟨by rw [HE2.out]; rfl, _, rfl, by omega, ⟨hc, HNM.out, Kd.C_below HC.out hB, _, v2, hP.out, hM.out, w.heap.size, Kd.R_mono hR.out (fun _ _ => trivial)⟩⟩⟩
end Go.Proofs.Ytgnifglolbfamaa
