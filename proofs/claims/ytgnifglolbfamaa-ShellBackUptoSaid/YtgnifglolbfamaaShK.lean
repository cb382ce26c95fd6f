/- The law ShellWords, walked. -/
import Derived.Test.YtgnifglolbfamaaShJ
import Derived.Test.YtgnifglolbfamaaShH
set_option linter.unusedVariables false
set_option linter.unusedSimpArgs false
namespace Go.Proofs.Ytgnifglolbfamaa
open Go.RowKit

def WordsPost (r : List (List UInt8) × Int) (w : World) (e : Ending) (w' : World) : Prop := ∃ v, e = .returned (.tuple #[v, .int .i64 r.2]) ∧ Below w.heap.size w w' ∧ StrsAt w' v r.1
theorem words_str (s : ByteArray) (w : World) : Calls Try.prog 30 #[.string s] w (WordsPost (wordsOf s.data.toList) w) :=
  (words_any s w).mono fun e w' ⟨hb, v, he, ho⟩ => ⟨v, he, hb, StrsAt.own ho⟩
theorem rwords_str (s : ByteArray) (w : World) : Calls Try.prog 31 #[.string s] w (WordsPost (wordsOf s.data.toList) w) :=
  (rwords_any s w).mono fun e w' ⟨hb, v, he, ho⟩ => ⟨v, he, hb, StrsAt.own ho⟩
theorem texts_same (a b : Value) (l : List (List UInt8)) (w : World) (ha : StrsAt w a l) (hb : StrsAt w b l) :
    Calls Try.prog 32 #[a, b] w fun e w' => e = .returned (.bool true) ∧ ∃ n, w' = w.drewN n :=
  (texts_any a b l l w ha hb).mono fun e w' ⟨he, hw⟩ => ⟨by rw [he]; simp, hw⟩

theorem ext_drew (w : World) : Below w.heap.size w w.drew := (Below.refl _ _).drew
theorem keep1 {w w' : World} {a : Addr} {v : Value} (hb : Below w.heap.size w w') (h : w.cell? a = some v) : w'.cell? a = some v := (hb.cell (World.block_lt_of_cell? _ _ h)).trans h

set_option maxHeartbeats 2000000 in
theorem shellWords_walk (A : Option Addr) (n c : Nat) (ss : Nat → ByteArray) (w : World) (hn : n ≤ 9223372036854775807) (hc : ∀ i, i < n → ∃ ad, A = some ad ∧ w.cell? (ad.add i) = some (.string (ss i))) (hs : ∀ i, i < n → (ss i).size ≤ 1000000000000) :
    Calls Try.prog 6 #[.slice A n c] w fun e w' => e = .returned (.bool true) ∧ Below w.heap.size w w' := by
  have HC := Lib.hid hc
  have HS := Lib.hid hs
  clear hc hs
  go_enter Try.func6, Try.ntmps6
  go_wp2_with (go_at_call 29; refine (worded_any _).mono ?_; rintro e w0 ⟨rfl, hb0⟩)
  go_loopw [3] (fun t3 wr => ∃ k : Nat, k ≤ n ∧ t3 = .int .i64 k ∧ Below w.heap.size w wr) (fun t3 _ => n - (intOf t3).toNat)
  case atStart => exact ⟨0, by omega, rfl, hb0⟩
  case round =>
    clear hb0
    obtain ⟨k, hk, rfl, hB⟩ := hrel
    by_cases hlt : k < n
    · obtain ⟨ad, rfl, c0⟩ := HC.out k hlt
      have c1 := (hB.cell (World.block_lt_of_cell? w _ c0)).trans c0
      have hsz := HS.out k hlt
      generalize ss k = s at *
      clear c0
      generalize hr : wordsOf s.data.toList = r
      have i1 : (0 : Int) ≤ (k : Int) := by omega
      have i2 : (k : Int) < n := by omega
      have hwd := fun wx => words_str s wx
      have hrw := fun wx => rwords_str s wx
      rw [hr] at hwd hrw
      have HWD := Lib.hid hwd
      have HRW := Lib.hid hrw
      clear hwd hrw hr
      obtain ⟨ws, er⟩ := r
      go_wp2_with fail
      refine (HWD.out _).mono ?_
      rintro e w1 ⟨v1, rfl, hb1, h1⟩
      have c2 := (hb1.cell (World.block_lt_of_cell? _ _ c1)).trans c1
      clear c1
      go_wp2_with fail
      refine (HRW.out _).mono ?_
      rintro e w2 ⟨v2, rfl, hb2, h2⟩
      have c3 := (hb2.cell (World.block_lt_of_cell? _ _ c2)).trans c2
      have h1' := h1.below hb2
      clear c2 h1
      go_wp2_with fail
      go_region_held3 (fun w' => w'.cell? (ad.add k) = some (.string s)) (first | assumption | (exact keep1 (by assumption) (by assumption)) | go_keep)
        (first
          | (go_at_call 32; refine (texts_same v1 v2 ws _ (by exact h1') (by exact h2)).mono ?_; rintro e w3 ⟨rfl, n3, rfl⟩)
          | (go_at_call 33; refine (quote_any s _ hsz).mono ?_; rintro e w3 ⟨rfl, hb3⟩)
          | (go_at_call 34; refine (rquote_any s _ hsz).mono ?_; rintro e w4 ⟨rfl, hb4⟩))
      go_wp2_with fail
      go_roundw
      case rel => exact ⟨k + 1, by omega, by go_num, ext_trans hB (ext_trans hb1 (ext_trans hb2 (ext_trans (ext_drewN _ (1 + n3)) (ext_trans hb3 hb4))))⟩
      case measure => simp [intOf]; omega
    · go_wp2_with fail
      go_ret
      exact ⟨rfl, hB⟩
end Go.Proofs.Ytgnifglolbfamaa
