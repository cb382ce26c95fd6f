/- worded: what the statements of words ask ahead. -/
import Derived.Test.YtgikkibiinanjaaDoorShI
import Derived.Test.YtgikkibiinanjaaDoorShD
set_option linter.unusedVariables false
set_option linter.unusedSimpArgs false
namespace Go.Proofs.YtgikkibiinanjaaDoor
open Go.RowKit

theorem StrsAt.lit (W : World) (l : List (List UInt8)) (ys : Array Value) (h : ys.toList = l.map strv) (hl : l.length ≤ 9223372036854775807) : StrsAt (W.alloc (.cells ys 9)) (.slice (some ⟨W.heap.size, 0, none⟩) l.length l.length) l := by
  refine ⟨_, _, rfl, hl, fun i hi => ⟨_, rfl, ?_⟩⟩
  have e : (⟨W.heap.size, 0, none⟩ : Addr).add i = ⟨W.heap.size, i, none⟩ := by unfold Addr.add; split <;> simp_all
  rw [e, cell_of_row (W.alloc (.cells ys 9)) W.heap.size i ys 9 (0, 0) (heap_alloc_new W _)]
  rw [← Array.getElem?_toList, h]
  simp [List.getElem?_eq_getElem hi]

def w1 : List (List UInt8) := [[112, 117, 115, 104], [84, 105, 99, 107], [51], [97, 32, 98], []]
theorem words_const : wordsOf [112, 117, 115, 104, 32, 84, 105, 99, 107, 32, 32, 51, 32, 34, 97, 32, 98, 34, 32, 34, 34] = (w1, 0) := by decide +kernel
theorem quote_const1 : quoteOf [97, 32, 98] = [34, 97, 32, 98, 34] := by decide +kernel
theorem quote_const2 : quoteOf [120] = [120] := by decide +kernel

theorem words_const_any (w : World) : Calls Tryd.prog 5 #[.string ⟨#[112, 117, 115, 104, 32, 84, 105, 99, 107, 32, 32, 51, 32, 34, 97, 32, 98, 34, 32, 34, 34]⟩] w fun e w' => ∃ v, e = .returned (.tuple #[v, .int .i64 0]) ∧ Below w.heap.size w w' ∧ StrsAt w' v w1 := by
  have h := words_any ⟨#[112, 117, 115, 104, 32, 84, 105, 99, 107, 32, 32, 51, 32, 34, 97, 32, 98, 34, 32, 34, 34]⟩ w
  have hc : wordsOf (⟨#[112, 117, 115, 104, 32, 84, 105, 99, 107, 32, 32, 51, 32, 34, 97, 32, 98, 34, 32, 34, 34]⟩ : ByteArray).data.toList = (w1, 0) := words_const
  rw [hc] at h
  refine h.mono ?_
  rintro e w' ⟨hb, v, rfl, ho⟩
  exact ⟨v, rfl, hb, StrsAt.own ho⟩
theorem quote_const1_any (w : World) : Calls Tryd.prog 11 #[.string ⟨#[97, 32, 98]⟩] w fun e w' => e = .returned (.string ⟨#[34, 97, 32, 98, 34]⟩) ∧ Below w.heap.size w w' := by
  refine (quote_any ⟨#[97, 32, 98]⟩ w (by decide)).mono ?_
  rintro e w' ⟨rfl, hb⟩
  exact ⟨by rw [show (⟨#[97, 32, 98]⟩ : ByteArray).data.toList = [97, 32, 98] from rfl, quote_const1], hb⟩
theorem quote_const2_any (w : World) : Calls Tryd.prog 11 #[.string ⟨#[120]⟩] w fun e w' => e = .returned (.string ⟨#[120]⟩) ∧ Below w.heap.size w w' := by
  refine (quote_any ⟨#[120]⟩ w (by decide)).mono ?_
  rintro e w' ⟨rfl, hb⟩
  exact ⟨by rw [show (⟨#[120]⟩ : ByteArray).data.toList = [120] from rfl, quote_const2], hb⟩

theorem ext_trans {w w1 w2 : World} (a : Below w.heap.size w w1) (b : Below w1.heap.size w1 w2) : Below w.heap.size w w2 := a.trans (b.mono a.size)
theorem ext_drewN (w : World) (n : Nat) : Below w.heap.size w (w.drewN n) := below_drewN (Below.refl _ _) n
theorem below_alloc' {W : World} (o : Obj) : Below W.heap.size W (W.alloc o) := (Below.refl _ _).alloc (Nat.le_refl _) o

set_option maxHeartbeats 1000000 in
theorem worded_any (w : World) : Calls Tryd.prog 4 #[] w fun e w' => e = .returned (.bool true) ∧ Below w.heap.size w w' := by
  go_enter Tryd.func4, Tryd.ntmps4
  go_wp2_with fail
  refine (words_const_any _).mono ?_
  rintro e W1 ⟨v, rfl, hb1, hs1⟩
  have hz1 := hb1.size
  go_wp2_with fail
  refine (texts_any _ _ w1 w1 _ (hs1.below (below_alloc' _)) (StrsAt.lit W1 w1 _ rfl (by decide))).mono ?_
  rintro e W2 ⟨rfl, n, rfl⟩
  have ht : decide (w1 = w1) = true := by simp
  go_wp2_with fail
  refine (quote_const1_any _).mono ?_
  rintro e W3 ⟨rfl, hb3⟩
  go_wp2_with fail
  refine (quote_const2_any _).mono ?_
  rintro e W4 ⟨rfl, hb4⟩
  go_wp2_with fail
  go_ret
  exact ⟨rfl, ext_trans hb1 (ext_trans (below_alloc' _) (ext_trans (ext_drewN _ n) (ext_trans hb3 hb4)))⟩
end Go.Proofs.YtgikkibiinanjaaDoor
