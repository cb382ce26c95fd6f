import Derived.Test.YtcfgmkmllcfjjaaDoorZImB
import Derived.Lib.Hide
import Derived.Laws.Bits64b
import Derived.Laws.Closers25b
set_option linter.unusedVariables false
set_option linter.unusedSimpArgs false
set_option maxHeartbeats 1000000
namespace Go.Proofs.YtcfgmkmllcfjjaaDoor
open Go.RowKit Go.Proofs.YtcfgmkmllcfjjaaDoorW.PrintWords Go.Proofs.YtcfgmkmllcfjjaaDoorW.PrintMore PImageForm
theorem w7 {i : Nat} (h : i ≤ 9) : 0 ≤ wrap64 (7 * (i : Int)) := by rw [w64 (by omega) (by omega)]; omega
theorem w1 {i : Nat} (h : i ≤ 9) : wrap64 ((i : Int) + 1) = ((i + 1 : Nat) : Int) := by rw [w64 (by omega) (by omega)]; omega
theorem z_le {acc z P : Nat} (hP : P = 9223372036854775808) (h : acc + z * P < 18446744073709551616) : z ≤ 1 := by subst hP; omega
theorem z_le' {z : Nat} (h : z ≤ 1) : decide ((z : Int) > 1) = false := decide_eq_false (by omega)
theorem nine {i : Nat} (h : (i : Int) = 9) : i = 9 := by omega
theorem z_big {acc z P : Nat} (hP : P = 9223372036854775808) (h : acc + z * P < 18446744073709551616) (hz : ¬ z < 128) : False := by subst hP; omega
theorem sm {z i : Nat} (hs : z < 128) (hz : 0 < i → 0 < z) : (¬ (z : Int) = 0 ∨ ¬ (i : Int) > 0) ∧ (z : Int) % 128 = (z : Int) ∧ (0 : Int) ≤ (z : Int) ∧ (z : Int) < 256 ∧ ¬ (z : Int) ≥ 128 := by omega
theorem bg {z i k' u : Nat} (hs : ¬ z < 128) (h9 : i < 9) (hk : 2 * (10 - i) ≤ k' + 1 + 1) : ¬ (i : Int) = 9 ∧ ((z % 128 + 128 : Nat) : Int) ≥ 128 ∧ (0 : Int) ≤ ((z % 128 + 128 : Nat) : Int) ∧ ((z % 128 + 128 : Nat) : Int) < 256 ∧ ((z % 128 + 128 : Nat) : Int) % 128 = ((z % 128 : Nat) : Int) ∧ z / 128 < z ∧ 0 < z / 128 ∧ 2 * (10 - (i + 1)) ≤ k' ∧ i + 1 + u = i + (u + 1) := by omega
theorem take_inP {acc c i P : Nat} (hP : Hid (P = 2 ^ (7 * i))) (hi : i ≤ 9) (ha : acc < P) (hc : c < 128) (h64 : acc + c * P < 18446744073709551616) :
    Go.bits .or .u64 (acc : Int) (shl .u64 (IntKind.u64.wrap (c : Int)) (wrap64 (7 * (i : Int)))) = ((acc + c * P : Nat) : Int) := by
  have := hP.out
  subst this
  exact take_in hi ha hc h64
theorem top63 {i P : Nat} (hP : Hid (P = 2 ^ (7 * i))) (h : i = 9) : P = 9223372036854775808 := by rw [hP.out, h]
theorem acc_sum {acc z P : Nat} : acc + z % 128 * P + z / 128 * (128 * P) = acc + z * P := by
  have hdm : z / 128 * 128 + z % 128 = z := by omega
  have h1 : z * P = (z / 128 * 128 + z % 128) * P := by rw [hdm]
  rw [h1, Nat.add_mul, Nat.mul_assoc, Nat.add_assoc, Nat.add_comm (z % 128 * P)]
theorem acc_lt {acc z P : Nat} (ha : acc < P) : acc + z % 128 * P < 128 * P := by
  have : z % 128 * P ≤ 127 * P := Nat.mul_le_mul_right _ (by omega)
  omega
theorem acc_le {acc z P B : Nat} (h : acc + z * P < B) : acc + z % 128 * P < B := by
  have : z % 128 * P ≤ z * P := Nat.mul_le_mul_right _ (Nat.mod_le _ _)
  omega
theorem int_dec : ∀ (z i k acc P : Nat) (l pre rest : List Int), Hid (P = 2 ^ (7 * i)) → l = pre ++ uvL z ++ rest → pre.length = i → i ≤ 9 → 2 * (10 - i) ≤ k → acc < P → acc + z * P < 18446744073709551616 → (0 < i → 0 < z) →
    wire_Int.l0 k (acc : Int) l (l.length : Int) (i : Int) = some (unzig (acc + z * P), ((i + (uvL z).length : Nat) : Int), 0) := by
  intro z
  induction z using Nat.strongRecOn with
  | _ z ih =>
    intro i k acc P l pre rest hP hl hp hi hk ha h64 hz
    obtain ⟨k', rfl⟩ : ∃ k', k = k' + 1 + 1 := ⟨k - 2, by omega⟩
    have hlen : l.length = i + (uvL z).length + rest.length := by rw [hl, List.length_append, List.length_append, hp]
    have hpos := uvL_pos z
    have hrd : ∀ c cs, uvL z = c :: cs → rd l (i : Int) = c := by
      intro c cs h
      unfold rd
      rw [Int.toNat_natCast, List.getD_eq_getElem?_getD, hl, List.append_assoc, List.getElem?_append_right (by omega), hp, Nat.sub_self, h]
      rfl
    rw [wire_Int.l0, if_pos (by omega), if_pos (by omega), if_pos (by omega)]
    have hw := w1 hi
    have hw7 := w7 hi
    by_cases hs : z < 128
    · have hu := uvL_small hs
      rw [hrd _ _ hu]
      have hguard : (if (i : Int) = 9 then wire_Int.j1 (k' + 1) (acc : Int) (i : Int) (z : Int) l (l.length : Int) (i : Int) (decide ((z : Int) > 1)) else wire_Int.j1 (k' + 1) (acc : Int) (i : Int) (z : Int) l (l.length : Int) (i : Int) false) = wire_Int.j1 (k' + 1) (acc : Int) (i : Int) (z : Int) l (l.length : Int) (i : Int) false := by
        by_cases h9 : (i : Int) = 9
        · rw [if_pos h9]
          rw [z_le' (z_le (top63 hP (nine h9)) h64)]
        · rw [if_neg h9]
      obtain ⟨hi0, hz2, hz3, hz4, hz5⟩ := sm hs hz
      rw [hguard, wire_Int.j1, if_neg (by simp), if_pos hw7, if_neg hz5]
      rw [u8_and127 _ hz3 hz4, hz2, take_inP hP hi ha hs h64, unz h64, hu]
      rw [hw]
      by_cases h0 : (z : Int) = 0
      · rw [if_pos h0, if_neg (hi0.resolve_left (fun h => h h0))]
        rfl
      · rw [if_neg h0]
        rfl
    · have hu := uvL_big hs
      rw [hrd _ _ hu]
      have h9 : i < 9 := by
        refine Nat.lt_of_not_le (fun h => ?_)
        exact z_big (top63 hP (Nat.le_antisymm hi h)) h64 hs
      obtain ⟨hi9, hc1, hc2, hc3, hc4, hz1, hz2, hk2, hlc⟩ := bg (u := (uvL (z / 128)).length) hs h9 hk
      rw [if_neg hi9, wire_Int.j1, if_neg (by simp), if_pos hw7, if_pos hc1]
      rw [u8_and127 _ hc2 hc3, hc4, take_inP hP hi ha (Nat.mod_lt _ (by decide)) (acc_le h64)]
      rw [hw, ih (z / 128) hz1 (i + 1) k' _ (128 * P) l (pre ++ [((z % 128 + 128 : Nat) : Int)]) rest (Lib.hid (by rw [hP.out]; exact (pow_succ7 i).symm)) (by rw [hl, hu]; simp) (by rw [List.length_append, hp]; rfl) h9 hk2 (acc_lt ha) (Nat.lt_of_le_of_lt (Nat.le_of_eq (acc_sum (acc := acc) (z := z) (P := P))) h64) (fun _ => hz2), acc_sum (acc := acc) (z := z) (P := P), hu, List.length_cons, hlc]
theorem Int_puti {n : Int} (h : I64 n) (rest : List Int) : wire_Int.f 40 (puti n ++ rest) = some (n, ((puti n).length : Int), 0) := by
  unfold wire_Int.f
  have := int_dec (Lib.zigzag n) 0 40 0 1 (puti n ++ rest) [] rest (Lib.hid rfl) rfl rfl (by decide) (by decide) (by decide) (by have := Lib.zigzag_lt h.1 h.2; omega) (fun h => absurd h (by decide))
  rw [show ((0 : Nat) : Int) = 0 from rfl] at this
  rw [this]
  simp only [Nat.mul_one, Nat.zero_add]
  rw [unzig_zigzag h]
  rfl
end Go.Proofs.YtcfgmkmllcfjjaaDoor
