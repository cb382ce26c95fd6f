import Derived.Test.YtcfgmkmllcfjjaaDoorZImA
import Derived.Laws.Bits64b
import Derived.Laws.Closers25b
set_option linter.unusedVariables false
set_option linter.unusedSimpArgs false
set_option maxHeartbeats 1000000
namespace Go.Proofs.YtcfgmkmllcfjjaaDoor
open Go.RowKit Go.Proofs.YtcfgmkmllcfjjaaDoorW.PrintWords Go.Proofs.YtcfgmkmllcfjjaaDoorW.PrintMore PImageForm
def Bytes (l : List Int) : Prop := ∀ b ∈ l, 0 ≤ b ∧ b < 256
theorem Bytes.append {a b : List Int} (h : Bytes a) (k : Bytes b) : Bytes (a ++ b) := fun x hx => (List.mem_append.1 hx).elim (h x) (k x)
theorem Bytes.left {a b : List Int} (h : Bytes (a ++ b)) : Bytes a := fun x hx => h x (List.mem_append_left _ hx)
theorem Bytes.right {a b : List Int} (h : Bytes (a ++ b)) : Bytes b := fun x hx => h x (List.mem_append_right _ hx)
theorem Bytes.drop {a : List Int} (h : Bytes a) (n : Nat) : Bytes (a.drop n) := fun x hx => h x (List.mem_of_mem_drop hx)
theorem Bytes.take {a : List Int} (h : Bytes a) (n : Nat) : Bytes (a.take n) := fun x hx => h x (List.mem_of_mem_take hx)
theorem rd_bytes {l : List Int} (h : Bytes l) (i : Int) : 0 ≤ rd l i ∧ rd l i < 256 := by
  unfold rd
  rw [List.getD_eq_getElem?_getD]
  cases hx : l[i.toNat]? with
  | none => simp
  | some b => exact h b (List.mem_of_getElem? hx)
theorem w64 {x : Int} (h0 : 0 ≤ x) (h1 : x < 4611686018427387904) : wrap64 x = x := by unfold wrap64; omega
theorem shl_nat (x y : Int) : ∃ a : Nat, shl .u64 x y = (a : Int) ∧ a < 18446744073709551616 := by
  unfold shl
  rw [IntKind.wrap_u64]
  exact ⟨(((x * 2 ^ min y.toNat IntKind.u64.bits) % 18446744073709551616).toNat), by omega, by omega⟩
theorem or_nat (a b : Nat) (ha : a < 18446744073709551616) (hb : b < 18446744073709551616) : ∃ c : Nat, Go.bits .or .u64 (a : Int) (b : Int) = (c : Int) ∧ c < 18446744073709551616 :=
  ⟨a ||| b, bits_or_u64_nat a b ha hb, Nat.or_lt_two_pow (n := 64) (by omega) (by omega)⟩
theorem int_tot : ∀ (m i k acc : Nat) (l : List Int), i + m = 9 → 2 * m + 2 ≤ k → acc < 18446744073709551616 → Bytes l → l.length ≤ 4611686018427387904 →
    ∃ (v e : Int) (n : Nat), wire_Int.l0 k (acc : Int) l (l.length : Int) (i : Int) = some (v, (n : Int), e) ∧ I64 v ∧ ((e = 0 ∧ i < n ∧ n ≤ l.length) ∨ (e ≠ 0 ∧ n = 0)) := by
  intro m
  induction m with
  | zero =>
    intro i k acc l hi hk ha hB hl
    obtain ⟨k', rfl⟩ : ∃ k', k = k' + 1 + 1 := ⟨k - 2, by omega⟩
    obtain rfl : i = 9 := by omega
    rw [wire_Int.l0]
    by_cases h1 : ((9 : Nat) : Int) < (l.length : Int)
    · rw [if_pos h1, if_pos (by omega), if_pos h1, if_pos (by omega), wire_Int.j1]
      obtain ⟨hb0, hb1⟩ := rd_bytes hB ((9 : Nat) : Int)
      generalize rd l ((9 : Nat) : Int) = c at *
      by_cases hc : c > 1
      · rw [if_pos (by simpa using hc)]
        exact ⟨0, 31, 0, rfl, ⟨by omega, by omega⟩, Or.inr ⟨by decide, rfl⟩⟩
      · rw [if_neg (by simpa using hc), if_pos (by rw [w64 (by omega) (by omega)]; omega), if_neg (by omega)]
        obtain ⟨a, e1, ha1⟩ := shl_nat (IntKind.u64.wrap (Go.bits .and .u8 c 127)) (wrap64 (7 * ((9 : Nat) : Int)))
        rw [e1]
        obtain ⟨z, e2, hz⟩ := or_nat acc a ha ha1
        rw [e2]
        clear e1 e2 ha1
        have hi64 : ∀ x y : Int, I64 (Go.bits .xor .i64 x y) := fun x y => by have := bits_within .xor .i64 x y; exact this
        by_cases h0 : c = 0
        · rw [if_pos h0, if_pos (by omega)]
          exact ⟨0, 31, 0, rfl, ⟨by omega, by omega⟩, Or.inr ⟨by decide, rfl⟩⟩
        · rw [if_neg h0]
          exact ⟨_, 0, 10, by rw [show wrap64 (((9 : Nat) : Int) + 1) = ((10 : Nat) : Int) by unfold wrap64; omega], hi64 _ _, Or.inl ⟨rfl, by omega, by omega⟩⟩
    · rw [if_neg h1]
      exact ⟨0, 30, 0, rfl, ⟨by omega, by omega⟩, Or.inr ⟨by decide, rfl⟩⟩
  | succ m ih =>
    intro i k acc l hi hk ha hB hl
    obtain ⟨k', rfl⟩ : ∃ k', k = k' + 1 + 1 := ⟨k - 2, by omega⟩
    rw [wire_Int.l0]
    by_cases h1 : (i : Int) < (l.length : Int)
    · rw [if_pos h1, if_pos (by omega), if_pos h1, if_neg (by omega), wire_Int.j1]
      obtain ⟨hb0, hb1⟩ := rd_bytes hB (i : Int)
      generalize rd l (i : Int) = c at *
      rw [if_neg (by simp), if_pos (by rw [w64 (by omega) (by omega)]; omega)]
      obtain ⟨a, e1, ha1⟩ := shl_nat (IntKind.u64.wrap (Go.bits .and .u8 c 127)) (wrap64 (7 * (i : Int)))
      rw [e1]
      obtain ⟨z, e2, hz⟩ := or_nat acc a ha ha1
      rw [e2]
      clear e1 e2 ha1
      have hi64 : ∀ x y : Int, I64 (Go.bits .xor .i64 x y) := fun x y => by have := bits_within .xor .i64 x y; exact this
      have hw : wrap64 ((i : Int) + 1) = ((i + 1 : Nat) : Int) := by unfold wrap64; omega
      rw [hw]
      by_cases h2 : c ≥ 128
      · rw [if_pos h2]
        obtain ⟨v, e, n, h3, h4, h5⟩ := ih (i + 1) k' z l (by omega) (by omega) hz hB hl
        refine ⟨v, e, n, h3, h4, ?_⟩
        rcases h5 with ⟨a1, a2, a3⟩ | h5
        · exact Or.inl ⟨a1, by omega, a3⟩
        · exact Or.inr h5
      · rw [if_neg h2]
        by_cases h0 : c = 0
        · rw [if_pos h0]
          by_cases hi0 : (i : Int) > 0
          · rw [if_pos hi0]
            exact ⟨0, 31, 0, rfl, ⟨by omega, by omega⟩, Or.inr ⟨by decide, rfl⟩⟩
          · rw [if_neg hi0]
            exact ⟨_, 0, i + 1, rfl, hi64 _ _, Or.inl ⟨rfl, by omega, by omega⟩⟩
        · rw [if_neg h0]
          exact ⟨_, 0, i + 1, rfl, hi64 _ _, Or.inl ⟨rfl, by omega, by omega⟩⟩
    · rw [if_neg h1]
      exact ⟨0, 30, 0, rfl, ⟨by omega, by omega⟩, Or.inr ⟨by decide, rfl⟩⟩
theorem pow_pos7 (i : Nat) : 0 < 2 ^ (7 * i) := Nat.pow_pos (by decide)
theorem pow_succ7 (i : Nat) : 2 ^ (7 * (i + 1)) = 128 * 2 ^ (7 * i) := by rw [show 7 * (i + 1) = 7 * i + 7 by omega, Nat.pow_add]; omega
theorem take_in {acc c i : Nat} (hi : i ≤ 9) (ha : acc < 2 ^ (7 * i)) (hc : c < 128) (h64 : acc + c * 2 ^ (7 * i) < 18446744073709551616) :
    Go.bits .or .u64 (acc : Int) (shl .u64 (IntKind.u64.wrap (c : Int)) (wrap64 (7 * (i : Int)))) = ((acc + c * 2 ^ (7 * i) : Nat) : Int) := by
  have e1 : wrap64 (7 * (i : Int)) = ((7 * i : Nat) : Int) := by unfold wrap64; omega
  have e2 : IntKind.u64.wrap (c : Int) = (c : Int) := by rw [IntKind.wrap_u64]; omega
  have e3 : shl .u64 (c : Int) ((7 * i : Nat) : Int) = ((c * 2 ^ (7 * i) : Nat) : Int) := by
    unfold shl
    have hm : min (((7 * i : Nat) : Int)).toNat IntKind.u64.bits = 7 * i := by
      rw [Int.toNat_natCast]
      exact Nat.min_eq_left (by show 7 * i ≤ 64; omega)
    rw [hm, IntKind.wrap_u64]
    have h5 : (c : Int) * 2 ^ (7 * i) = ((c * 2 ^ (7 * i) : Nat) : Int) := by rw [Int.natCast_mul, Int.natCast_pow]; rfl
    rw [h5]
    omega
  rw [e1, e2, e3]
  have hj := bits_join .u64 64 (by decide) wraps_u64 (7 * i) ((c * 2 ^ (7 * i) : Nat) : Int) (acc : Int) (by omega) (by
    have : ((c * 2 ^ (7 * i) : Nat) : Int) % ((2 ^ (7 * i) : Nat) : Int) = 0 := by rw [← Int.natCast_emod, Nat.mul_mod_left]; rfl
    rwa [Int.natCast_pow] at this) (by omega) (by omega) (by
    have : (acc : Int) < ((2 ^ (7 * i) : Nat) : Int) := by omega
    rwa [Int.natCast_pow] at this) (by
    have := ha
    omega)
  have hc2 : ∀ a b : Int, Go.bits .or .u64 a b = Go.bits .or .u64 b a := fun a b => by unfold Go.bits; simp only [BitVec.or_comm]
  rw [hc2, hj]
  omega
theorem Int_any {l : List Int} (hB : Bytes l) (hl : l.length ≤ 4611686018427387904) : ∃ (v e : Int) (n : Nat), wire_Int.f 40 l = some (v, (n : Int), e) ∧ I64 v ∧ ((e = 0 ∧ 0 < n ∧ n ≤ l.length) ∨ (e ≠ 0 ∧ n = 0)) := by
  unfold wire_Int.f
  exact int_tot 9 0 40 0 l rfl (by decide) (by decide) hB hl
end Go.Proofs.YtcfgmkmllcfjjaaDoor
