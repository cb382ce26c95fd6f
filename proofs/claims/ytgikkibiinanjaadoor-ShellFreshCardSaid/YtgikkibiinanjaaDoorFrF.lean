/- (*Book).whole. -/
import Derived.Test.YtgikkibiinanjaaDoorFrE
set_option linter.unusedVariables false
set_option linter.unusedSimpArgs false
namespace Go.Proofs.YtgikkibiinanjaaDoor
open Go.RowKit

theorem BookOk.get {w : World} {G base : Nat} {v : Value} {xs : List Value} {s : Int} {es : List Rw} {M : Nat → Nat → Value} (h : BookOk w G base v xs s es es.length M) (i : Nat) (hi : i < xs.length) :
    ∃ (r : Rw) (m : Nat), r ∈ es ∧ xs[i]? = some (.slice r.A m r.cap) ∧ m ≤ r.cap ∧ r.In w (cont M r) ∧ ∀ j, j < m → cont M r j = mark (i / 2) := by
  have hl := h.vals.1
  have hk : i / 2 < es.length := by omega
  obtain ⟨h1, h2⟩ := h.vals.2 (i / 2) hk
  have hin := h.in_ _ (mem_get hk)
  have hf := h.full (i / 2) hk
  have hle := hin.le
  have hrm := rm_le hle
  have hcont : ∀ m, m ≤ es[i / 2].n + rm es[i / 2] → ∀ j, j < m → cont M es[i / 2] j = mark (i / 2) := by
    intro m hm j hj
    obtain ⟨g, hg, _⟩ := hin.ex (by omega)
    rw [cont_some hg]
    exact hf g hg j (by omega)
  by_cases he : i = 2 * (i / 2)
  · refine ⟨es[i / 2], es[i / 2].n, mem_get hk, by rw [show xs[i]? = xs[2 * (i / 2)]? by rw [← he], h1]; rfl, hle, hin, hcont _ (by omega)⟩
  · have he2 : i = 2 * (i / 2) + 1 := by omega
    rw [if_pos hk] at h2
    refine ⟨es[i / 2], es[i / 2].n + rm es[i / 2], mem_get hk, ?_, hrm, hin, hcont _ (Nat.le_refl _)⟩
    have e : xs[i]? = xs[2 * (i / 2) + 1]? := by rw [← he2]
    rw [e, h2]
    rfl

set_option maxHeartbeats 4000000 in
theorem wholeB {w : World} {G base : Nat} {v : Value} {xs : List Value} {s : Int} {es : List Rw} {M : Nat → Nat → Value} (h : BookOk w G base v xs s es es.length M) (hB : base ≤ w.heap.size) (ht : Tab base w) :
    Calls Tryd.prog 8 #[.pointer (some ⟨G, 0, none⟩)] w fun e w' => e = .returned (.bool true) ∧ Below w.heap.size w w' := by
  obtain ⟨A, c, rfl, hc1, hc2, hAg⟩ := own_form h.at_.2
  have hxl := h.vals.1
  have hfew := h.few
  have HG := Lib.hid h.at_.1
  have HO := Lib.hid h.at_.2
  have HH := Lib.hid h
  have HT := Lib.hid ht
  have HAG := Lib.hid hAg
  have HGET := Lib.hid h.get
  have hL : xs.length ≤ 67108 := by omega
  clear h ht hAg hxl hfew
  generalize hLL : xs.length = L at *
  have HLL := Lib.hid hLL
  clear hLL
  go_enter Tryd.func8, Tryd.ntmps8
  go_wp2_with fail
  go_loopw [3] (fun t3 wr => ∃ i : Nat, i ≤ L ∧ t3 = .int .i64 i ∧ Below w.heap.size w wr) (fun t3 _ => L - (intOf t3).toNat)
  case atStart => exact ⟨0, by omega, rfl, Below.refl _ _⟩
  case round =>
    obtain ⟨i, hi, rfl, hb⟩ := hrel
    generalize wr = w2 at *
    have HG2 := Lib.hid ((Only.of_below (S := fun _ => False) hb).blk HG.out (fun h => h))
    have HO2 := Lib.hid (own_only (S := fun _ => False) HO.out (Only.of_below hb) (fun _ _ h => h))
    have hsz := hb.size
    have c0 := (cellB HG2.out 0).trans rfl
    by_cases hlt : i < L
    · have i1 : (0 : Int) ≤ (i : Int) := by omega
      have i2 : (i : Int) < L := by omega
      obtain ⟨gl, rfl⟩ := HAG.out (by omega)
      obtain ⟨r, m, hr, hx, hm, hin, hmk⟩ := HGET.out i (by have := HLL.out; omega)
      have hcap := hin.capmax
      have HIN := Lib.hid hin
      have HMK := Lib.hid hmk
      have HX := Lib.hid hx
      obtain ⟨kb, hkb⟩ : ∃ kb, mark (i / 2) = .string kb := ⟨_, rfl⟩
      have HW : Hid (Calls Tryd.prog 14 #[.int .i64 ((i : Int) / 2)] w2 fun e w' => e = .returned (.string kb) ∧ Below w2.heap.size w2 w') := by
        have e : ((i : Int) / 2) = ((i / 2 : Nat) : Int) := by omega
        rw [e, ← hkb]
        exact Lib.hid (word_any (i / 2) (by omega) base w2 (by omega) (HT.out.on (hb.mono hB)))
      have HKB := Lib.hid hkb
      clear hin hmk hx hkb hr
      go_wp2_with fail
      refine HW.out.mono ?_
      rintro e W1 ⟨rfl, hb1⟩
      clear c0
      have HG1 := Lib.hid ((Only.of_below (S := fun _ => False) hb1).blk HG2.out (fun h => h))
      have HO1 := Lib.hid (own_only (S := fun _ => False) HO2.out (Only.of_below hb1) (fun _ _ h => h))
      have c0 := (cellB HG1.out 0).trans rfl
      have cp : W1.cell? ⟨gl, i, none⟩ = some (.slice r.A m r.cap) := by
        rw [HO1.out.cellAt i (by omega)]
        exact HX.out
      have HI1 := Lib.hid ((HIN.out.only (S := fun _ => False) (Only.of_below hb) (fun _ _ h => h)).only (S := fun _ => False) (Only.of_below hb1) (fun _ _ h => h))
      have hbb := Lib.hid (hb.trans (hb1.mono hsz))
      go_wp2_with fail
      go_loopw [5] (fun t5 wr => ∃ j : Nat, j ≤ m ∧ t5 = .int .i64 j ∧ wr = W1) (fun t5 _ => m - (intOf t5).toNat)
      case atStart => exact ⟨0, by omega, rfl, rfl⟩
      case round =>
        obtain ⟨j, hj, rfl, hwr⟩ := hrel
        have hwr2 := hwr.symm
        clear hwr
        subst hwr2
        by_cases hjl : j < m
        · have i3 : (0 : Int) ≤ (j : Int) := by omega
          have i4 : (j : Int) < m := by omega
          obtain ⟨g, hg, e1, e2⟩ := HI1.out.cell j (by omega)
          have hA := Rw.A_some hg
          rw [hA] at cp
          have e3 : W1.cell? ⟨g, j, none⟩ = some (.string kb) := by rw [e1, HMK.out j hjl, HKB.out]
          have HGG := Lib.hid hg
          have HAA := Lib.hid hA
          clear hg e1 hA e2
          go_wp2_with fail
          go_roundw
          case rel => exact ⟨j + 1, by omega, by go_num, by trivial⟩
          case measure => simp [intOf]; omega
        · obtain rfl : j = m := by omega
          go_wp2_with fail
          go_roundw
          case rel => exact ⟨i + 1, by omega, by go_num, hbb.out⟩
          case measure => simp [intOf]; omega
    · obtain rfl : i = L := by omega
      go_wp2_with fail
      go_ret
      exact ⟨rfl, hb⟩
end Go.Proofs.YtgikkibiinanjaaDoor
