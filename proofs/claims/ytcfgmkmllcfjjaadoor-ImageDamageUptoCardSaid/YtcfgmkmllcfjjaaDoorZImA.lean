import Derived.Test.YtcfgmkmllcfjjaaDoorZPImageFormx5
import Derived.Lib.Zigzag
import Derived.Lib.VarintBits
set_option linter.unusedVariables false
set_option linter.unusedSimpArgs false
namespace Go.Proofs.YtcfgmkmllcfjjaaDoor
open Go.RowKit Go.Proofs.YtcfgmkmllcfjjaaDoorW.PrintWords Go.Proofs.YtcfgmkmllcfjjaaDoorW.PrintMore PImageForm
def uvL (z : Nat) : List Int := if h : z < 128 then [(z : Int)] else ((z % 128 + 128 : Nat) : Int) :: uvL (z / 128)
termination_by z
decreasing_by omega
theorem uvL_small {z : Nat} (h : z < 128) : uvL z = [(z : Int)] := by rw [uvL, dif_pos h]
theorem uvL_big {z : Nat} (h : ¬ z < 128) : uvL z = ((z % 128 + 128 : Nat) : Int) :: uvL (z / 128) := by rw [uvL, dif_neg h]
theorem uvL_len : ∀ (j z : Nat), z < 128 ^ (j + 1) → (uvL z).length ≤ j + 1
  | 0, z, h => by rw [uvL_small (by simpa using h)]; simp
  | j + 1, z, h => by
    by_cases hz : z < 128
    · rw [uvL_small hz]; simp
    · rw [uvL_big hz, List.length_cons]
      have := uvL_len j (z / 128) (by rw [Nat.pow_succ] at h; exact Nat.div_lt_of_lt_mul (by rw [Nat.mul_comm]; exact h))
      omega
theorem uvL_pos (z : Nat) : 1 ≤ (uvL z).length := by
  by_cases hz : z < 128
  · rw [uvL_small hz]; simp
  · rw [uvL_big hz]; simp
theorem uvL_bytes (z : Nat) : ∀ b ∈ uvL z, 0 ≤ b ∧ b < 256 := by
  induction z using Nat.strongRecOn with
  | _ z ih =>
    intro b hb
    by_cases hz : z < 128
    · rw [uvL_small hz, List.mem_singleton] at hb
      subst hb
      omega
    · rw [uvL_big hz] at hb
      rcases List.mem_cons.1 hb with rfl | hb
      · omega
      · exact ih (z / 128) (by omega) b hb
def I64 (n : Int) : Prop := -9223372036854775808 ≤ n ∧ n ≤ 9223372036854775807
def puti (n : Int) : List Int := uvL (Lib.zigzag n)
theorem puti_len {n : Int} (h : I64 n) : (puti n).length ≤ 10 := uvL_len 9 _ (Nat.lt_of_lt_of_le (Lib.zigzag_lt h.1 h.2) (by decide))
theorem puti_pos (n : Int) : 1 ≤ (puti n).length := uvL_pos _
theorem puti_bytes (n : Int) : ∀ b ∈ puti n, 0 ≤ b ∧ b < 256 := uvL_bytes _
theorem put_l0 : ∀ (j z k : Nat) (x0 : List Int), z < 128 ^ (j + 1) → j < k → x0.length + j < 140737488355328 → wire_putInt.l0 k x0 (z : Int) = some (x0 ++ uvL z) := by
  intro j
  induction j with
  | zero =>
    intro z k x0 hz hk hl
    obtain ⟨k', rfl⟩ : ∃ k', k = k' + 1 := ⟨k - 1, by omega⟩
    have hz' : z < 128 := by simpa using hz
    rw [wire_putInt.l0, if_neg (by omega), if_pos (by omega), uvL_small hz', show (z : Int) % 256 = z by omega]
  | succ j ih =>
    intro z k x0 hz hk hl
    obtain ⟨k', rfl⟩ : ∃ k', k = k' + 1 := ⟨k - 1, by omega⟩
    by_cases hz' : z < 128
    · rw [wire_putInt.l0, if_neg (by omega), if_pos (by omega), uvL_small hz', show (z : Int) % 256 = z by omega]
    · rw [wire_putInt.l0, if_pos (by omega), if_pos (by omega), uvL_big hz', Lib.u8_or128_any _ (by omega) (by omega), show (z : Int) / 128 = ((z / 128 : Nat) : Int) by omega,
        show (z : Int) % 256 % 128 + 128 = ((z % 128 + 128 : Nat) : Int) by omega,
        ih (z / 128) k' _ (by rw [Nat.pow_succ] at hz; exact Nat.div_lt_of_lt_mul (by rw [Nat.mul_comm]; exact hz)) (by omega) (by rw [List.length_append, List.length_singleton]; omega), List.append_assoc]
      rfl
theorem zig_bits {n : Int} (h : I64 n) : Go.bits .xor .u64 ((IntKind.u64.wrap ((IntKind.u64.wrap (n)) * 2))) (IntKind.u64.wrap (n / 9223372036854775808)) = ((Lib.zigzag n : Nat) : Int) := by
  have hc : ∀ a b : Int, Go.bits .xor .u64 a b = Go.bits .xor .u64 b a := fun a b => by unfold Go.bits; simp only [BitVec.xor_comm]
  obtain ⟨h1, h2⟩ := h
  by_cases hn : 0 ≤ n
  · have e1 : n / 9223372036854775808 = 0 := by omega
    have e2 : IntKind.u64.wrap ((IntKind.u64.wrap n) * 2) = ((2 * n).toNat : Nat) := by rw [IntKind.wrap_u64, IntKind.wrap_u64]; omega
    rw [e1, e2, show IntKind.u64.wrap 0 = ((0 : Nat) : Int) from rfl, bits_xor_u64_nat _ _ (by omega) (by decide), Nat.xor_zero]
    unfold Lib.zigzag
    rw [if_pos hn]
  · have e1 : n / 9223372036854775808 = -1 := by omega
    rw [e1, hc, show IntKind.u64.wrap (-1) = IntKind.u64.max from by decide]
    exact Lib.zigzag_neg h1 (by omega)
theorem putInt_f {k : Nat} {l0 : List Int} {n : Int} (h : I64 n) (hk : 10 ≤ k) (hl : l0.length ≤ 140737488355000) : wire_putInt.f k l0 n = some (l0 ++ puti n) := by
  unfold wire_putInt.f
  rw [zig_bits h]
  exact put_l0 9 _ k l0 (Nat.lt_of_lt_of_le (Lib.zigzag_lt h.1 h.2) (by decide)) (by omega) (by omega)
theorem PutInt_f {n : Int} (h : I64 n) : wire_PutInt.f 20 n = some (puti n) := by
  unfold wire_PutInt.f
  rw [putInt_f h (by decide) (by simp)]
  rfl
def unzig (z : Nat) : Int := if z % 2 = 0 then ((z / 2 : Nat) : Int) else -((z / 2 : Nat) : Int) - 1
theorem unzig_zigzag {n : Int} (h : I64 n) : unzig (Lib.zigzag n) = n := by
  unfold unzig Lib.zigzag
  obtain ⟨h1, h2⟩ := h
  by_cases hn : 0 ≤ n
  · rw [if_pos hn, if_pos (by omega)]; omega
  · rw [if_neg hn, if_neg (by omega)]; omega
theorem unz {z : Nat} (h : z < 18446744073709551616) : Go.bits .xor .i64 (wrap64 ((z : Int) / 2)) (wrap64 (-(wrap64 (Go.bits .and .u64 (z : Int) 1)))) = unzig z := by
  have hc : ∀ a b : Int, Go.bits .xor .i64 a b = Go.bits .xor .i64 b a := fun a b => by unfold Go.bits; simp only [BitVec.xor_comm]
  rw [Lib.u64_and1 _ (by omega) (by omega)]
  have e1 : wrap64 ((z : Int) / 2) = ((z / 2 : Nat) : Int) := by unfold wrap64; omega
  rw [e1]
  unfold unzig
  by_cases hz : z % 2 = 0
  · rw [if_pos hz]
    have e2 : wrap64 (-(wrap64 ((z : Int) % 2))) = 0 := by unfold wrap64; omega
    rw [e2]
    show IntKind.i64.wrap ((BitVec.ofInt 64 ((z / 2 : Nat) : Int) ^^^ BitVec.ofInt 64 0).toNat : Int) = _
    have h1 : (BitVec.ofInt 64 (0 : Int)) = 0#64 := by decide
    have h2 : (BitVec.ofInt 64 ((z / 2 : Nat) : Int)).toNat = z / 2 := by rw [BitVec.ofInt_natCast, BitVec.toNat_ofNat]; exact Nat.mod_eq_of_lt (by omega)
    rw [h1, BitVec.xor_zero, h2, IntKind.wrap_i64]
    omega
  · rw [if_neg hz]
    have e2 : wrap64 (-(wrap64 ((z : Int) % 2))) = -1 := by unfold wrap64; omega
    rw [e2, hc, Lib.i64_not _ (by omega)]
end Go.Proofs.YtcfgmkmllcfjjaaDoor
