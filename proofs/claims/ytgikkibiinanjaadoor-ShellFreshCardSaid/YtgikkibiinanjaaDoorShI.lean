/- The law's own texts, and slices of strings that are read. -/
import Derived.Test.YtgikkibiinanjaaDoorShC
import Derived.Deep.QuietTactic
import Derived.BigQuiet
set_option linter.unusedVariables false
set_option linter.unusedSimpArgs false
namespace Go.Proofs.YtgikkibiinanjaaDoor
open Go.RowKit

/-- A slice value that reads as these strings. -/
def StrsAt (W : World) (v : Value) (l : List (List UInt8)) : Prop :=
  ∃ A c, v = .slice A l.length c ∧ l.length ≤ 9223372036854775807 ∧ ∀ i (h : i < l.length), ∃ ad, A = some ad ∧ W.cell? (ad.add i) = some (strv l[i])
theorem StrsAt.below {W W' : World} {v : Value} {l : List (List UInt8)} (h : StrsAt W v l) (hb : Below W.heap.size W W') : StrsAt W' v l := by
  obtain ⟨A, c, rfl, hl, hc⟩ := h
  refine ⟨A, c, rfl, hl, fun i hi => ?_⟩
  obtain ⟨ad, rfl, hcell⟩ := hc i hi
  exact ⟨ad, rfl, (hb.cell (World.block_lt_of_cell? W _ hcell)).trans hcell⟩
theorem StrsAt.own {W : World} {base : Nat} {v : Value} {l : List (List UInt8)} (h : W.ownsRow base 9 1 v l.length (l.map strv)) : StrsAt W v l := by
  rcases h.2 with ⟨rfl, h0⟩ | ⟨g, cap, cur, rfl, _, _, hn, hm, _⟩
  · exact ⟨none, 0, by rw [h0], by omega, fun i hi => by omega⟩
  · refine ⟨some ⟨g, 0, none⟩, cap, rfl, by simp only [maxLen] at hm; omega, fun i hi => ⟨_, rfl, ?_⟩⟩
    exact h.cells (g := g) rfl i _ (by simp [List.getElem?_eq_getElem hi])

theorem strv_eq (a b : List UInt8) : ((⟨a.toArray⟩ : ByteArray).toList == (⟨b.toArray⟩ : ByteArray).toList) = decide (a = b) := by
  rw [Lib.toList_data, Lib.toList_data]
  rw [Bool.eq_iff_iff]
  simp

set_option maxHeartbeats 1000000 in
theorem texts_any (a b : Value) (l m : List (List UInt8)) (w : World) (ha : StrsAt w a l) (hb : StrsAt w b m) :
    Calls Tryd.prog 6 #[a, b] w fun e w' => e = .returned (.bool (decide (l = m))) ∧ ∃ n, w' = w.drewN n := by
  obtain ⟨A, c, rfl, hl, hA⟩ := ha
  obtain ⟨B, d, rfl, hm, hB⟩ := hb
  have HA := Lib.hid hA
  have HB := Lib.hid hB
  clear hA hB
  by_cases hlen : l.length = m.length
  · go_enter Tryd.func6, Tryd.ntmps6
    go_wp2_with fail
    go_loopw [5] (fun t5 wr => ∃ k : Nat, k ≤ l.length ∧ t5 = .int .i64 k ∧ Hid (∃ nq, wr = w.drewN nq) ∧ Hid (l.take k = m.take k)) (fun t5 wr => l.length - (intOf t5).toNat)
    case atStart => exact ⟨0, by omega, rfl, Lib.hid ⟨0, rfl⟩, Lib.hid rfl⟩
    case round =>
      obtain ⟨k, hk, rfl, hw, heq⟩ := hrel
      obtain ⟨nq, rfl⟩ := hw.out
      clear hw
      by_cases hlt : k < l.length
      · have hlt2 : k < m.length := by omega
        obtain ⟨ad, rfl, c1⟩ := HA.out k hlt
        obtain ⟨bd, rfl, c2⟩ := HB.out k hlt2
        have i1 : (0 : Int) ≤ (k : Int) := by omega
        have i2 : (k : Int) < l.length := by omega
        have i3 : (k : Int) < m.length := by omega
        by_cases he : l[k] = m[k]
        · have d1 : (l[k] == m[k]) = true := by simpa using he
          have HE := Lib.hid he
          unfold strv at c1 c2
          clear he
          go_wp2_with fail
          go_quiet (fail)
          go_wp2_with fail
          go_roundw
          case rel => exact ⟨k + 1, by omega, by go_num, Lib.hid ⟨_, rfl⟩, Lib.hid (by rw [List.take_succ_eq_append_getElem hlt, List.take_succ_eq_append_getElem hlt2, heq.out, HE.out])⟩
          case measure => simp [intOf]; omega
        · have d1 : (l[k] == m[k]) = false := by simpa using he
          have HE := Lib.hid he
          unfold strv at c1 c2
          clear he
          go_wp2_with fail
          go_quiet (fail)
          go_wp2_with fail
          go_ret
          have hd : decide (l = m) = false := by simp; intro h; exact HE.out (by simp [h])
          exact ⟨by rw [hd]; rfl, _, World.drewN_drewN ..⟩
      · go_wp2_with fail
        go_ret
        have h := heq.out
        rw [List.take_of_length_le (by omega), List.take_of_length_le (by omega)] at h
        have hd : decide (l = m) = true := by simpa using h
        exact ⟨by rw [hd]; rfl, _, rfl⟩
  · have d0 : ((l.length : Int) != m.length) = true := by simp; omega
    have hd : decide (l = m) = false := by simp; intro h; exact hlen (by rw [h])
    go_enter Tryd.func6, Tryd.ntmps6
    go_wp2_with fail
    go_ret
    exact ⟨by rw [hd]; rfl, 0, rfl⟩
end Go.Proofs.YtgikkibiinanjaaDoor
