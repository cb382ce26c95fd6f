import Derived.Test.YtcfgmkmllcfjjaaGreatDoorZBA
import Derived.Test.YtcfgmkmllcfjjaaGreatDoorZAK
import Derived.Test.YtcfgmkmllcfjjaaGreatDoorZAX
set_option linter.unusedVariables false
set_option linter.unusedSimpArgs false
namespace Go.Proofs.YtcfgmkmllcfjjaaGreatDoor
open Go.RowKit Go.Proofs.YtcfgmkmllcfjjaaGreatDoorW.PrintWords Go.Proofs.YtcfgmkmllcfjjaaGreatDoorW.PrintMore PImageAll
theorem rput_l0 : ∀ (j z k : Nat) (x0 : List Int), z < 128 ^ (j + 1) → z < 18446744073709551616 → j < k → x0.length + j < 140737488355328 → qa1.l0 k (z : Int) x0 = some (x0 ++ uvL z) := by
  intro j
  induction j with
  | zero =>
    intro z k x0 hz h64 hk hl
    obtain ⟨k', rfl⟩ : ∃ k', k = k' + 1 := ⟨k - 1, by omega⟩
    have hz' : z < 128 := by simpa using hz
    rw [qa1.l0, if_neg (by omega), if_pos (by omega), uvL_small hz', show (z : Int) % 256 = z by omega]
  | succ j ih =>
    intro z k x0 hz h64 hk hl
    obtain ⟨k', rfl⟩ : ∃ k', k = k' + 1 := ⟨k - 1, by omega⟩
    by_cases hz' : z < 128
    · rw [qa1.l0, if_neg (by omega), if_pos (by omega), uvL_small hz', show (z : Int) % 256 = z by omega]
    · have e1 : Int.tdiv (z : Int) 128 = ((z / 128 : Nat) : Int) := by rw [Int.tdiv_eq_ediv_of_nonneg (by omega)]; omega
      have e2 : Int.tmod (z : Int) 128 = ((z % 128 : Nat) : Int) := by rw [Int.tmod_eq_emod_of_nonneg (by omega)]; omega
      have e3 : IntKind.u64.wrap ((z / 128 : Nat) : Int) = ((z / 128 : Nat) : Int) := by rw [IntKind.wrap_u64]; omega
      have e4 : IntKind.u64.wrap (128 + ((z % 128 : Nat) : Int)) % 256 = ((z % 128 + 128 : Nat) : Int) := by rw [IntKind.wrap_u64]; omega
      rw [qa1.l0, if_pos (by omega), if_pos (by omega), uvL_big hz', e1, e2, e3, e4,
        ih (z / 128) k' _ (by rw [Nat.pow_succ] at hz; exact Nat.div_lt_of_lt_mul (by rw [Nat.mul_comm]; exact hz)) (by omega) (by omega) (by rw [List.length_append, List.length_singleton]; omega), List.append_assoc]
      rfl
theorem rPutInt_f {n : Int} (h : I64 n) {k : Nat} (hk : 12 ≤ k) : qa1.f k n = some (puti n) := by
  obtain ⟨k', rfl⟩ : ∃ k', k = k' + 1 := ⟨k - 1, by omega⟩
  have hz := Lib.zigzag_lt h.1 h.2
  have main : ∀ y : Int, y = ((Lib.zigzag n : Nat) : Int) → qa1.j0 (k' + 1) y = some (puti n) := by
    rintro y rfl
    rw [qa1.j0, rput_l0 9 _ k' _ (Nat.lt_of_lt_of_le hz (by decide)) (by omega) (by omega) (by simp)]
    rfl
  obtain ⟨h1, h2⟩ := h
  unfold qa1.f
  by_cases hn : n < 0
  · rw [if_pos hn]
    refine main _ ?_
    unfold Lib.zigzag
    rw [if_neg (by omega)]
    have e1 : wrap64 (n + 1) = n + 1 := by unfold wrap64; omega
    have e2 : wrap64 (-(n + 1)) = -(n + 1) := by unfold wrap64; omega
    rw [e1, e2]
    simp only [IntKind.wrap_u64]
    omega
  · rw [if_neg hn]
    refine main _ ?_
    unfold Lib.zigzag
    rw [if_pos (by omega)]
    simp only [IntKind.wrap_u64]
    omega
theorem same3_l0 {a b : List Int} (hab : a.length = b.length) (hl : a.length ≤ 4611686018427387904) : ∀ (d k i : Nat), i + d = a.length → d < k → qa3.l0 k a b (i : Int) = some (decide (a.drop i = b.drop i)) := by
  intro d
  induction d with
  | zero =>
    intro k i hi hk
    obtain ⟨k', rfl⟩ : ∃ k', k = k' + 1 := ⟨k - 1, by omega⟩
    rw [qa3.l0, if_neg (by omega), List.drop_eq_nil_of_le (by omega), List.drop_eq_nil_of_le (by omega)]
    simp
  | succ d ih =>
    intro k i hi hk
    obtain ⟨k', rfl⟩ : ∃ k', k = k' + 1 := ⟨k - 1, by omega⟩
    have ha : i < a.length := by omega
    have hb : i < b.length := by omega
    rw [qa3.l0, if_pos (by omega), if_pos (by omega), if_pos (by omega), rd_get ha, rd_get hb, List.drop_eq_getElem_cons ha, List.drop_eq_getElem_cons hb]
    by_cases he : a[i] = b[i]
    · rw [if_pos he, show wrap64 ((i : Int) + 1) = ((i + 1 : Nat) : Int) by unfold wrap64; omega, ih k' (i + 1) (by omega) (by omega)]
      exact congrArg some (decide_eq_decide.mpr ⟨fun h => by rw [he, h], fun h => (List.cons.inj h).2⟩)
    · rw [if_neg he, decide_eq_false (fun h => he (List.cons.inj h).1)]
theorem same3_f {a b : List Int} (hl : a.length ≤ 4611686018427387904) {k : Nat} (hk : a.length < k) : qa3.f k a b = some (decide (a = b)) := by
  unfold qa3.f
  by_cases h : a.length = b.length
  · rw [if_pos (by omega)]
    have := same3_l0 h hl a.length k 0 (by omega) (by omega)
    rw [List.drop_zero, List.drop_zero] at this
    exact this
  · rw [if_neg (by omega)]
    have : ¬ a = b := fun e => h (congrArg List.length e)
    simp [this]
theorem same22_l0 {a b : List Int} (hab : a.length = b.length) (hl : a.length ≤ 4611686018427387904) : ∀ (d k i : Nat), i + d = a.length → d < k → refrainref22_same.l0 k a b (i : Int) = some (decide (a.drop i = b.drop i)) := by
  intro d
  induction d with
  | zero =>
    intro k i hi hk
    obtain ⟨k', rfl⟩ : ∃ k', k = k' + 1 := ⟨k - 1, by omega⟩
    rw [refrainref22_same.l0, if_neg (by omega), List.drop_eq_nil_of_le (by omega), List.drop_eq_nil_of_le (by omega)]
    simp
  | succ d ih =>
    intro k i hi hk
    obtain ⟨k', rfl⟩ : ∃ k', k = k' + 1 := ⟨k - 1, by omega⟩
    have ha : i < a.length := by omega
    have hb : i < b.length := by omega
    rw [refrainref22_same.l0, if_pos (by omega), if_pos (by omega), if_pos (by omega), rd_get ha, rd_get hb, List.drop_eq_getElem_cons ha, List.drop_eq_getElem_cons hb]
    by_cases he : a[i] = b[i]
    · rw [if_pos he, show wrap64 ((i : Int) + 1) = ((i + 1 : Nat) : Int) by unfold wrap64; omega, ih k' (i + 1) (by omega) (by omega)]
      exact congrArg some (decide_eq_decide.mpr ⟨fun h => by rw [he, h], fun h => (List.cons.inj h).2⟩)
    · rw [if_neg he, decide_eq_false (fun h => he (List.cons.inj h).1)]
theorem same22_f {a b : List Int} (hl : a.length ≤ 4611686018427387904) {k : Nat} (hk : a.length < k) : refrainref22_same.f k a b = some (decide (a = b)) := by
  unfold refrainref22_same.f
  by_cases h : a.length = b.length
  · rw [if_pos (by omega)]
    have := same22_l0 h hl a.length k 0 (by omega) (by omega)
    rw [List.drop_zero, List.drop_zero] at this
    exact this
  · rw [if_neg (by omega)]
    have : ¬ a = b := fun e => h (congrArg List.length e)
    simp [this]
theorem rj4_f {l : List Int} {x5 : Nat} {v : Int} {k : Nat} (hv : I64 v) (hx : x5 < l.length) (h10 : x5 ≤ 10) (hk : 30 ≤ k) (hl : l.length ≤ 4611686018427387904) :
    qa0.j4 k l (x5 : Int) v = some (if puti v = l.take (x5 + 1) then (v, ((x5 + 1 : Nat) : Int), 0) else (0, 0, 31)) := by
  obtain ⟨k', rfl⟩ : ∃ k', k = k' + 1 := ⟨k - 1, by omega⟩
  have e1 : wrap64 ((x5 : Int) + 1) = ((x5 + 1 : Nat) : Int) := by unfold wrap64; omega
  have hp := puti_len hv
  rw [qa0.j4, rPutInt_f hv (by omega), Option.bind_some, e1, if_pos (by omega), if_pos (by omega), Int.toNat_natCast, same3_f (by omega) (by omega), Option.bind_some]
  by_cases he : puti v = l.take (x5 + 1)
  · rw [if_pos (by simpa using he), if_pos he]
  · rw [if_neg (by simpa using he), if_neg he]
def IntOk (l : List Int) (r : Int × Int × Int) : Prop := (r.2.2 = 0 ∧ I64 r.1 ∧ ∃ rest, l = puti r.1 ++ rest ∧ r.2.1 = ((puti r.1).length : Int)) ∨ (r.2.2 ≠ 0 ∧ r.1 = 0 ∧ r.2.1 = 0)
theorem rj4_ok {l : List Int} {x5 : Nat} {v : Int} {k : Nat} (hv : I64 v) (hx : x5 < l.length) (h10 : x5 ≤ 10) (hk : 30 ≤ k) (hl : l.length ≤ 4611686018427387904) :
    ∃ r, qa0.j4 k l (x5 : Int) v = some r ∧ IntOk l r := by
  refine ⟨_, rj4_f hv hx h10 hk hl, ?_⟩
  by_cases he : puti v = l.take (x5 + 1)
  · rw [if_pos he]
    refine .inl ⟨rfl, hv, l.drop (x5 + 1), ?_, ?_⟩
    · show l = puti v ++ _
      rw [he, List.take_append_drop]
    · show ((x5 + 1 : Nat) : Int) = _
      rw [he, List.length_take]
      omega
  · rw [if_neg he]
    exact .inr ⟨by decide, rfl, rfl⟩
def vOf (z : Int) : Int := if Int.tmod z 2 = 1 then wrap64 ((wrap64 (-(wrap64 (IntKind.u64.wrap (Int.tdiv z 2))))) - 1) else wrap64 (IntKind.u64.wrap (Int.tdiv z 2))
theorem vOf_I64 (z : Int) : I64 (vOf z) := by
  unfold vOf I64
  by_cases h : Int.tmod z 2 = 1
  · rw [if_pos h]; unfold wrap64; omega
  · rw [if_neg h]; unfold wrap64; omega
theorem vOf_nat {z : Nat} (h : z < 18446744073709551616) : vOf (z : Int) = unzig z := by
  unfold vOf unzig
  have e1 : Int.tmod (z : Int) 2 = ((z % 2 : Nat) : Int) := by rw [Int.tmod_eq_emod_of_nonneg (by omega)]; omega
  have e2 : Int.tdiv (z : Int) 2 = ((z / 2 : Nat) : Int) := by rw [Int.tdiv_eq_ediv_of_nonneg (by omega)]; omega
  have e3 : IntKind.u64.wrap ((z / 2 : Nat) : Int) = ((z / 2 : Nat) : Int) := by rw [IntKind.wrap_u64]; omega
  rw [e1, e2, e3]
  by_cases hz : z % 2 = 0
  · rw [if_neg (by omega), if_pos hz]; unfold wrap64; omega
  · rw [if_pos (by omega), if_neg hz]; unfold wrap64; omega
theorem rl1_end {l : List Int} {x5 i : Nat} {acc P : Int} {k : Nat} (hi : ¬ (i : Int) ≤ (x5 : Int)) :
    qa0.l1 (k + 1) l (x5 : Int) acc P (i : Int) = qa0.j4 k l (x5 : Int) (vOf acc) := by
  rw [qa0.l1, if_neg hi]
  unfold vOf
  by_cases h : Int.tmod acc 2 = 1
  · rw [if_pos h, if_pos h]
  · rw [if_neg h, if_neg h]
theorem rl1_ok {l : List Int} {x5 : Nat} (hx : x5 < l.length) (h10 : x5 ≤ 10) (hl : l.length ≤ 4611686018427387904) : ∀ (d i k : Nat) (acc P : Int), i + d = x5 + 1 → d + 31 ≤ k → ∃ r, qa0.l1 k l (x5 : Int) acc P (i : Int) = some r ∧ IntOk l r := by
  intro d
  induction d with
  | zero =>
    intro i k acc P hi hk
    obtain ⟨k', rfl⟩ : ∃ k', k = k' + 1 := ⟨k - 1, by omega⟩
    rw [rl1_end (by omega)]
    exact rj4_ok (vOf_I64 _) hx h10 (by omega) hl
  | succ d ih =>
    intro i k acc P hi hk
    obtain ⟨k', rfl⟩ : ∃ k', k = k' + 1 := ⟨k - 1, by omega⟩
    rw [qa0.l1, if_pos (by omega), if_pos (by omega), if_pos (by omega), show wrap64 ((i : Int) + 1) = ((i + 1 : Nat) : Int) by unfold wrap64; omega]
    exact ih (i + 1) k' _ _ (by omega) (by omega)
theorem rj2_ok {l : List Int} {x5 : Nat} (hx : x5 ≤ l.length) (h10 : x5 ≤ 10) (hl : l.length ≤ 4611686018427387904) (b : Bool) {k : Nat} (hk : 50 ≤ k) : ∃ r, qa0.j2 k l (x5 : Int) b = some r ∧ IntOk l r := by
  obtain ⟨k', rfl⟩ : ∃ k', k = k' + 1 := ⟨k - 1, by omega⟩
  rw [qa0.j2]
  by_cases hb : b = true
  · rw [if_pos hb]
    exact ⟨_, rfl, .inr ⟨by decide, rfl, rfl⟩⟩
  · rw [if_neg hb]
    by_cases he : (x5 : Int) = (l.length : Int)
    · rw [if_pos he]
      exact ⟨_, rfl, .inr ⟨by decide, rfl, rfl⟩⟩
    · rw [if_neg he]
      exact rl1_ok (by omega) h10 hl (x5 + 1) 0 k' 0 1 (by omega) (by omega)
theorem rj1_ok {l : List Int} {x5 : Nat} (hx : x5 ≤ l.length) (h10 : x5 ≤ 10) (hl : l.length ≤ 4611686018427387904) {k : Nat} (hk : 51 ≤ k) : ∃ r, qa0.j1 k l (x5 : Int) = some r ∧ IntOk l r := by
  obtain ⟨k', rfl⟩ : ∃ k', k = k' + 1 := ⟨k - 1, by omega⟩
  rw [qa0.j1]
  by_cases h1 : (x5 : Int) = 10
  · rw [if_pos h1]; exact rj2_ok hx h10 hl _ (by omega)
  · rw [if_neg h1]
    by_cases h9 : (x5 : Int) = 9
    · rw [if_pos h9]
      by_cases h3 : (x5 : Int) < (l.length : Int)
      · rw [if_pos h3, if_pos (by omega)]; exact rj2_ok hx h10 hl _ (by omega)
      · rw [if_neg h3]; exact rj2_ok hx h10 hl _ (by omega)
    · rw [if_neg h9]; exact rj2_ok hx h10 hl _ (by omega)
theorem rl0_ok {l : List Int} (hl : l.length ≤ 4611686018427387904) : ∀ (d i k : Nat), i + d = 10 → i ≤ l.length → d + 52 ≤ k → ∃ r, qa0.l0 k l (i : Int) = some r ∧ IntOk l r := by
  intro d
  induction d with
  | zero =>
    intro i k hi hil hk
    obtain ⟨k', rfl⟩ : ∃ k', k = k' + 1 := ⟨k - 1, by omega⟩
    rw [qa0.l0]
    by_cases h1 : (i : Int) < (l.length : Int)
    · rw [if_pos h1, if_neg (by omega)]; exact rj1_ok hil (by omega) hl (by omega)
    · rw [if_neg h1]; exact rj1_ok hil (by omega) hl (by omega)
  | succ d ih =>
    intro i k hi hil hk
    obtain ⟨k', rfl⟩ : ∃ k', k = k' + 1 := ⟨k - 1, by omega⟩
    rw [qa0.l0]
    by_cases h1 : (i : Int) < (l.length : Int)
    · rw [if_pos h1, if_pos (by omega), if_pos (by omega)]
      by_cases h2 : rd l (i : Int) ≥ 128
      · rw [if_pos h2, show wrap64 ((i : Int) + 1) = ((i + 1 : Nat) : Int) by unfold wrap64; omega]
        exact ih (i + 1) k' (by omega) (by omega) (by omega)
      · rw [if_neg h2]; exact rj1_ok hil (by omega) hl (by omega)
    · rw [if_neg h1]; exact rj1_ok hil (by omega) hl (by omega)
theorem rInt_ok {l : List Int} (hl : l.length ≤ 4611686018427387904) : ∃ r, qa0.f 80 l = some r ∧ IntOk l r := rl0_ok hl 10 0 80 rfl (by omega) (by decide)
theorem get_drop {l t : List Int} {i : Nat} {b : Int} (h : l.drop i = b :: t) : i < l.length ∧ rd l (i : Int) = b := by
  have hi : i < l.length := by
    by_cases hh : i < l.length
    · exact hh
    · rw [List.drop_eq_nil_of_le (by omega)] at h; cases h
  refine ⟨hi, ?_⟩
  rw [rd_get hi]
  rw [List.drop_eq_getElem_cons hi] at h
  exact (List.cons.inj h).1
theorem drop_tail {l t : List Int} {i : Nat} {b : Int} (h : l.drop i = b :: t) : l.drop (i + 1) = t := by
  have h2 := congrArg (List.drop 1) h
  rw [List.drop_drop] at h2
  first | exact h2 | (rw [Nat.add_comm]; exact h2)
theorem rl1_at {l rest : List Int} {x5 : Nat} (hx : x5 < l.length) (h10 : x5 ≤ 9) (hl : l.length ≤ 4611686018427387904) : ∀ (j z : Nat), z < 128 ^ (j + 1) → ∀ (i k acc P : Nat), (i ≤ 9 → P = 128 ^ i) → l.drop i = uvL z ++ rest → i + (uvL z).length = x5 + 1 → j + 40 ≤ k → acc + z * P < 18446744073709551616 → acc < 18446744073709551616 →
    qa0.l1 k l (x5 : Int) (acc : Int) (P : Int) (i : Int) = some (if puti (unzig (acc + z * P)) = l.take (x5 + 1) then (unzig (acc + z * P), ((x5 + 1 : Nat) : Int), 0) else (0, 0, 31)) := by
  intro j
  induction j with
  | zero =>
    intro z hz i k acc P hP hd hlen hk hs ha
    have hz' : z < 128 := by simpa using hz
    obtain ⟨k', rfl⟩ : ∃ k', k = (k' + 1) + 1 := ⟨k - 2, by omega⟩
    rw [uvL_small hz'] at hd hlen
    obtain ⟨h1, h2⟩ := get_drop hd
    have hlen : i + 1 = x5 + 1 := hlen
    have e1 : Int.tmod (z : Int) 128 = (z : Int) := by rw [Int.tmod_eq_emod_of_nonneg (by omega)]; omega
    have e2 : IntKind.u64.wrap (z : Int) = (z : Int) := by rw [IntKind.wrap_u64]; omega
    have e3 : IntKind.u64.wrap ((z : Int) * (P : Int)) = ((z * P : Nat) : Int) := by rw [← Int.natCast_mul, IntKind.wrap_u64]; omega
    have e4 : IntKind.u64.wrap ((acc : Int) + ((z * P : Nat) : Int)) = ((acc + z * P : Nat) : Int) := by rw [← Int.natCast_add, IntKind.wrap_u64]; omega
    rw [qa0.l1, if_pos (by omega), if_pos (by omega), if_pos (by omega), h2, e1, e2, e3, e4, show wrap64 ((i : Int) + 1) = ((i + 1 : Nat) : Int) by unfold wrap64; omega, rl1_end (by omega), vOf_nat (by omega), rj4_f (by rw [← vOf_nat (by omega)]; exact vOf_I64 _) hx (by omega) (by omega) hl]
  | succ j ih =>
    intro z hz i k acc P hP hd hlen hk hs ha
    by_cases hz' : z < 128
    · obtain ⟨k', rfl⟩ : ∃ k', k = (k' + 1) + 1 := ⟨k - 2, by omega⟩
      rw [uvL_small hz'] at hd hlen
      obtain ⟨h1, h2⟩ := get_drop hd
      have hlen : i + 1 = x5 + 1 := hlen
      have e1 : Int.tmod (z : Int) 128 = (z : Int) := by rw [Int.tmod_eq_emod_of_nonneg (by omega)]; omega
      have e2 : IntKind.u64.wrap (z : Int) = (z : Int) := by rw [IntKind.wrap_u64]; omega
      have e3 : IntKind.u64.wrap ((z : Int) * (P : Int)) = ((z * P : Nat) : Int) := by rw [← Int.natCast_mul, IntKind.wrap_u64]; omega
      have e4 : IntKind.u64.wrap ((acc : Int) + ((z * P : Nat) : Int)) = ((acc + z * P : Nat) : Int) := by rw [← Int.natCast_add, IntKind.wrap_u64]; omega
      rw [qa0.l1, if_pos (by omega), if_pos (by omega), if_pos (by omega), h2, e1, e2, e3, e4, show wrap64 ((i : Int) + 1) = ((i + 1 : Nat) : Int) by unfold wrap64; omega, rl1_end (by omega), vOf_nat (by omega), rj4_f (by rw [← vOf_nat (by omega)]; exact vOf_I64 _) hx (by omega) (by omega) hl]
    · obtain ⟨k', rfl⟩ : ∃ k', k = k' + 1 := ⟨k - 1, by omega⟩
      rw [uvL_big hz'] at hd hlen
      obtain ⟨h1, h2⟩ := get_drop hd
      have hd' := drop_tail hd
      have hlen : i + ((uvL (z / 128)).length + 1) = x5 + 1 := hlen
      have hup := uvL_pos (z / 128)
      have e1 : Int.tmod ((z % 128 + 128 : Nat) : Int) 128 = ((z % 128 : Nat) : Int) := by rw [Int.tmod_eq_emod_of_nonneg (by omega)]; omega
      have e2 : IntKind.u64.wrap ((z % 128 : Nat) : Int) = ((z % 128 : Nat) : Int) := by rw [IntKind.wrap_u64]; omega
      have hle : acc + z % 128 * P < 18446744073709551616 := acc_le hs
      have e3 : IntKind.u64.wrap (((z % 128 : Nat) : Int) * (P : Int)) = ((z % 128 * P : Nat) : Int) := by rw [← Int.natCast_mul, IntKind.wrap_u64]; omega
      have e4 : IntKind.u64.wrap ((acc : Int) + ((z % 128 * P : Nat) : Int)) = ((acc + z % 128 * P : Nat) : Int) := by rw [← Int.natCast_add, IntKind.wrap_u64]; omega
      have hPi := hP (by omega)
      have h9 : i ≤ 8 := by omega
      have hP9 : P ≤ 128 ^ 8 := by rw [hPi]; exact Nat.pow_le_pow_right (by decide) h9
      have hP9 : P ≤ 72057594037927936 := hP9
      have e5 : IntKind.u64.wrap ((P : Int) * 128) = ((128 * P : Nat) : Int) := by rw [IntKind.wrap_u64]; omega
      have hsum := acc_sum (acc := acc) (z := z) (P := P)
      rw [qa0.l1, if_pos (by omega), if_pos (by omega), if_pos (by omega), h2, e1, e2, e3, e4, e5, show wrap64 ((i : Int) + 1) = ((i + 1 : Nat) : Int) by unfold wrap64; omega,
        ih (z / 128) (by rw [Nat.pow_succ] at hz; exact Nat.div_lt_of_lt_mul (by rw [Nat.mul_comm]; exact hz)) (i + 1) k' _ (128 * P) (fun _ => by rw [hPi, Nat.pow_succ, Nat.mul_comm]) hd' (by omega) (by omega) (by rw [hsum]; exact hs) hle, hsum]
theorem rl0_at {l rest : List Int} (hl : l.length ≤ 4611686018427387904) : ∀ (j z : Nat), z < 128 ^ (j + 1) → ∀ (i k : Nat), l.drop i = uvL z ++ rest → i + (uvL z).length ≤ 10 → j + 10 ≤ k → qa0.l0 (k + 1) l (i : Int) = qa0.j1 (k - ((uvL z).length - 1)) l ((i + (uvL z).length - 1 : Nat) : Int) ∧ i + (uvL z).length ≤ l.length ∧ (∃ b t, l.drop (i + (uvL z).length - 1) = b :: t ∧ b = ((z / 128 ^ ((uvL z).length - 1) : Nat) : Int)) := by
  intro j
  induction j with
  | zero =>
    intro z hz i k hd hlen hk
    have hz' : z < 128 := by simpa using hz
    rw [uvL_small hz'] at hd hlen ⊢
    obtain ⟨h1, h2⟩ := get_drop hd
    simp only [List.length_singleton, Nat.sub_self, Nat.sub_zero, Nat.add_sub_cancel, Nat.pow_zero, Nat.div_one] at *
    refine ⟨?_, by omega, _, _, hd, rfl⟩
    rw [qa0.l0, if_pos (by omega), if_pos (by omega), if_pos (by omega), h2, if_neg (by omega)]
  | succ j ih =>
    intro z hz i k hd hlen hk
    by_cases hz' : z < 128
    · rw [uvL_small hz'] at hd hlen ⊢
      obtain ⟨h1, h2⟩ := get_drop hd
      simp only [List.length_singleton, Nat.sub_self, Nat.sub_zero, Nat.add_sub_cancel, Nat.pow_zero, Nat.div_one] at *
      refine ⟨?_, by omega, _, _, hd, rfl⟩
      rw [qa0.l0, if_pos (by omega), if_pos (by omega), if_pos (by omega), h2, if_neg (by omega)]
    · obtain ⟨k', rfl⟩ : ∃ k', k = k' + 1 := ⟨k - 1, by omega⟩
      rw [uvL_big hz'] at hd hlen ⊢
      obtain ⟨h1, h2⟩ := get_drop hd
      have hd' := drop_tail hd
      have hup := uvL_pos (z / 128)
      have hlen : i + ((uvL (z / 128)).length + 1) ≤ 10 := hlen
      obtain ⟨i1, i2, b, t, i3, i4⟩ := ih (z / 128) (by rw [Nat.pow_succ] at hz; exact Nat.div_lt_of_lt_mul (by rw [Nat.mul_comm]; exact hz)) (i + 1) k' hd' (by omega) (by omega)
      have el : (((z % 128 + 128 : Nat) : Int) :: uvL (z / 128)).length = (uvL (z / 128)).length + 1 := rfl
      rw [el]
      have es : i + ((uvL (z / 128)).length + 1) - 1 = i + 1 + (uvL (z / 128)).length - 1 := by omega
      refine ⟨?_, by omega, b, t, by rw [es]; exact i3, ?_⟩
      · rw [qa0.l0, if_pos (by omega), if_pos (by omega), if_pos (by omega), h2, if_pos (by omega), show wrap64 ((i : Int) + 1) = ((i + 1 : Nat) : Int) by unfold wrap64; omega, i1, es]
        congr 1
        omega
      · rw [i4, Nat.div_div_eq_div_mul, show (uvL (z / 128)).length + 1 - 1 = ((uvL (z / 128)).length - 1) + 1 by omega, Nat.pow_succ, Nat.mul_comm]
theorem rInt_at {n : Int} (hn : I64 n) (rest : List Int) (hl : (puti n ++ rest).length ≤ 4611686018427387904) : qa0.f 80 (puti n ++ rest) = some (n, ((puti n).length : Int), 0) := by
  have hz := Lib.zigzag_lt hn.1 hn.2
  have hp := puti_len hn
  have hpos := puti_pos n
  have hpl : (puti n).length = (uvL (Lib.zigzag n)).length := rfl
  obtain ⟨h1, h2, b, t, h3, h4⟩ := rl0_at (l := puti n ++ rest) (rest := rest) hl 9 (Lib.zigzag n) (Nat.lt_of_lt_of_le hz (by decide)) 0 79 rfl (by omega) (by omega)
  simp only [Nat.zero_add] at h1 h2 h3
  obtain ⟨g1, g2⟩ := get_drop h3
  unfold qa0.f
  rw [show (0 : Int) = ((0 : Nat) : Int) from rfl, h1]
  obtain ⟨x5, hx5⟩ : ∃ x5, x5 = (uvL (Lib.zigzag n)).length - 1 := ⟨_, rfl⟩
  rw [← hx5] at g1 g2 h4 ⊢
  have hx9 : x5 ≤ 9 := by omega
  obtain ⟨k, hk⟩ : ∃ k, 79 - x5 = ((k + 1) + 1) + 1 := ⟨79 - x5 - 3, by omega⟩
  rw [hk]
  have hu := unzig_zigzag hn
  have main : qa0.j2 ((k + 1) + 1) (puti n ++ rest) (x5 : Int) false = some (n, ((puti n).length : Int), 0) := by
    have := rl1_at (l := puti n ++ rest) (rest := rest) (x5 := x5) g1 hx9 hl 9 (Lib.zigzag n) (Nat.lt_of_lt_of_le hz (by decide)) 0 (k + 1) 0 1 (fun _ => rfl) rfl (by omega) (by omega) (by omega) (by omega)
    rw [Nat.zero_add, Nat.mul_one, hu] at this
    rw [qa0.j2, if_neg (by decide), if_neg (by omega)]
    refine this.trans ?_
    have et : (puti n ++ rest).take (x5 + 1) = puti n := by
      rw [show x5 + 1 = (puti n).length by omega]
      exact List.take_left ..
    rw [if_pos et.symm, show x5 + 1 = (puti n).length by omega]
  rw [qa0.j1, if_neg (by omega)]
  by_cases h9 : (x5 : Int) = 9
  · have hb : b ≤ 1 := by
      rw [h4, show x5 = 9 by omega]
      have : Lib.zigzag n / 128 ^ 9 < 2 := Nat.div_lt_of_lt_mul (Nat.lt_of_lt_of_le hz (by decide))
      omega
    have hr : rd (puti n ++ rest) 9 = b := by rw [← h9]; exact g2
    rw [if_pos h9, if_pos (by omega), if_pos (by omega), hr, decide_eq_false (by omega)]
    exact main
  · rw [if_neg h9]
    exact main
theorem rsum_l0 {l : List Int} (hB : Bytes l) (hl : l.length ≤ 4611686018427387904) : ∀ (d k i : Nat) (p q : Int), i + d = l.length → d < k → 0 ≤ p → p < 65521 → 0 ≤ q → q < 65521 → refrainref3_Sum.l0 k l p q (i : Int) = some (sumOf (sumF p q (l.drop i))) := by
  intro d
  induction d with
  | zero =>
    intro k i p q hi hk h1 h2 h3 h4
    obtain ⟨k', rfl⟩ : ∃ k', k = k' + 1 := ⟨k - 1, by omega⟩
    have e1 : Int.tdiv q 256 = q / 256 := Int.tdiv_eq_ediv_of_nonneg h3
    have e2 : Int.tdiv p 256 = p / 256 := Int.tdiv_eq_ediv_of_nonneg h1
    have e3 : Int.tmod q 256 = q % 256 := Int.tmod_eq_emod_of_nonneg h3
    have e4 : Int.tmod p 256 = p % 256 := Int.tmod_eq_emod_of_nonneg h1
    rw [refrainref3_Sum.l0, if_neg (by omega), List.drop_eq_nil_of_le (by omega), e1, e2, e3, e4]
    unfold sumF sumOf wrap64
    simp only [Option.some.injEq, List.cons.injEq, and_true]
    refine ⟨by omega, by omega, by omega, by omega⟩
  | succ d ih =>
    intro k i p q hi hk h1 h2 h3 h4
    obtain ⟨k', rfl⟩ : ∃ k', k = k' + 1 := ⟨k - 1, by omega⟩
    have hlt : i < l.length := by omega
    rw [refrainref3_Sum.l0, if_pos (by omega), if_pos (by omega), rd_get hlt, List.drop_eq_getElem_cons hlt, sumF]
    obtain ⟨b0, b1⟩ := hB l[i] (List.getElem_mem hlt)
    generalize l[i] = x at *
    have e1 : wrap64 x = x := w64 b0 (by omega)
    have e2 : wrap64 (p + x) = p + x := w64 (by omega) (by omega)
    have e3 : Int.tmod (p + x) 65521 = (p + x) % 65521 := Int.tmod_eq_emod_of_nonneg (by omega)
    rw [e1, e2, e3]
    have e4 : wrap64 (q + (p + x) % 65521) = q + (p + x) % 65521 := w64 (by omega) (by omega)
    have e5 : Int.tmod (q + (p + x) % 65521) 65521 = (q + (p + x) % 65521) % 65521 := Int.tmod_eq_emod_of_nonneg (by omega)
    have e6 : wrap64 ((i : Int) + 1) = ((i + 1 : Nat) : Int) := by unfold wrap64; omega
    rw [e4, e5, e6]
    exact ih k' (i + 1) _ _ (by omega) (by omega) (by omega) (by omega) (by omega) (by omega)
theorem rsum_f {l : List Int} (hB : Bytes l) (hl : l.length ≤ 4611686018427387904) : refrainref3_Sum.f (l.length + 1) l = some (sumB l) := by
  unfold refrainref3_Sum.f
  have := rsum_l0 hB hl l.length (l.length + 1) 0 1 0 (by omega) (by omega) (by omega) (by omega) (by omega) (by omega)
  rw [List.drop_zero] at this
  exact this
set_option maxRecDepth 100000 in
theorem inw_fin : ∀ c : Fin 256, refrainref2_inWord.f ((c.val : Nat) : Int) = some (ptB ((c.val : Nat) : Int)) := by decide +kernel
theorem inw_f {c : Nat} (h : c < 256) : refrainref2_inWord.f (c : Int) = some (ptB (c : Int)) := inw_fin ⟨c, h⟩
def dgB (c : Int) : Bool := decide (48 ≤ c) && decide (c ≤ 57)
theorem dg_f (c : Int) : refrainref2_digit.f c = some (dgB c) := by
  unfold refrainref2_digit.f dgB
  by_cases h : c ≥ 48
  · rw [if_pos h, decide_eq_true h, Bool.true_and]
  · rw [if_neg h, decide_eq_false h, Bool.false_and]
set_option maxRecDepth 100000 in
theorem lt_fin : ∀ c : Fin 256, ltB ((c.val : Nat) : Int) = (ptB ((c.val : Nat) : Int) && !dgB ((c.val : Nat) : Int)) := by decide +kernel
theorem lt_pt {c : Nat} (h : c < 256) : ltB (c : Int) = (ptB (c : Int) && !dgB (c : Int)) := lt_fin ⟨c, h⟩
theorem rword_l0 (s : ByteArray) (ws : List ByteArray) (hw : ws.length ≤ 1000) : ∀ (d k i : Nat), i + d = ws.length → d < k → qa4.l0 k s ws (i : Int) = some ((ws.drop i).any fun u => decide (s = u)) := by
  intro d
  induction d with
  | zero =>
    intro k i hi hk
    obtain ⟨k', rfl⟩ : ∃ k', k = k' + 1 := ⟨k - 1, by omega⟩
    rw [qa4.l0, if_neg (by omega), List.drop_eq_nil_of_le (by omega)]
    rfl
  | succ d ih =>
    intro k i hi hk
    obtain ⟨k', rfl⟩ : ∃ k', k = k' + 1 := ⟨k - 1, by omega⟩
    have hlt : i < ws.length := by omega
    have hr : rdOf ByteArray.empty ws (i : Int) = ws[i] := by
      unfold rdOf
      rw [Int.toNat_natCast, List.getD_eq_getElem?_getD, List.getElem?_eq_getElem hlt]
      rfl
    rw [qa4.l0, if_pos (by omega), if_pos (by omega), hr, List.drop_eq_getElem_cons hlt, List.any_cons]
    by_cases he : ws[i] = s
    · rw [if_pos (by rw [he]), decide_eq_true he.symm, Bool.true_or]
    · have hne : ¬ ws[i].toList = s.toList := by
        have := ne_toList he
        simpa using this
      rw [if_neg hne, show wrap64 ((i : Int) + 1) = ((i + 1 : Nat) : Int) by unfold wrap64; omega, ih k' (i + 1) (by omega) (by omega), decide_eq_false (fun e => he e.symm), Bool.false_or]
theorem rword_f (s : ByteArray) {k : Nat} (hk : 17 ≤ k) : qa4.f k s = some (wordsL.any fun u => decide (s = u)) := by
  unfold qa4.f
  exact rword_l0 s wordsL (by decide) 16 k 0 rfl (by omega)
theorem bt_get {s : ByteArray} {i : Nat} (h : i < s.size) : bt s (i : Int) = ((s[i]'h).toNat : Int) := by
  unfold bt
  rw [dif_pos (by rw [Int.toNat_natCast]; exact h)]
  simp only [Int.toNat_natCast]
theorem rname_l0 (s : ByteArray) (hs : s.size ≤ 1000) : ∀ (d k i : Nat), i + d = s.size → d < k → qa2.l0 k s (i : Int) = some ((s.data.toList.drop i).all fun c => ptB c.toNat) := by
  intro d
  induction d with
  | zero =>
    intro k i hi hk
    obtain ⟨k', rfl⟩ : ∃ k', k = k' + 1 := ⟨k - 1, by omega⟩
    rw [qa2.l0, if_neg (by omega), List.drop_eq_nil_of_le (by rw [data_length]; omega)]
    rfl
  | succ d ih =>
    intro k i hi hk
    obtain ⟨k', rfl⟩ : ∃ k', k = k' + 1 := ⟨k - 1, by omega⟩
    have hlt : i < s.size := by omega
    have hlt2 : i < s.data.toList.length := by rw [data_length]; exact hlt
    have hg : s.data.toList[i] = s[i]'hlt := rfl
    rw [qa2.l0, if_pos (by omega), if_pos (by omega), bt_get hlt, inw_f (UInt8.toNat_lt _), Option.bind_some, List.drop_eq_getElem_cons hlt2, List.all_cons, hg]
    by_cases he : ptB ((s[i]'hlt).toNat : Int) = true
    · rw [if_pos he, he, Bool.true_and, show wrap64 ((i : Int) + 1) = ((i + 1 : Nat) : Int) by unfold wrap64; omega]
      exact ih k' (i + 1) (by omega) (by omega)
    · rw [if_neg he]
      have : ptB ((s[i]'hlt).toNat : Int) = false := by simpa using he
      rw [this, Bool.false_and]
theorem rName_f (s : ByteArray) {k : Nat} (hk : 40 ≤ k) : qa2.f k s = some (nameB s) := by
  obtain ⟨k', rfl⟩ : ∃ k', k = k' + 1 := ⟨k - 1, by omega⟩
  unfold qa2.f nameB
  by_cases h1 : (s.size : Int) < 1
  · rw [if_pos h1, dif_neg (by omega), qa2.j0, if_pos rfl]
  · rw [if_neg h1]
    have h0 : 0 < s.size := by omega
    rw [dif_pos h0]
    by_cases h32 : (s.size : Int) > 32
    · rw [if_pos h32, qa2.j0, if_pos rfl, decide_eq_false (show ¬ s.size ≤ 32 by omega)]
      simp
    · have hb : bt s 0 = ((s[0]'h0).toNat : Int) := bt_get (i := 0) h0
      rw [if_neg h32, if_pos (by omega), hb, dg_f, Option.bind_some, decide_eq_true (show s.size ≤ 32 by omega), Bool.true_and, lt_pt (UInt8.toNat_lt _)]
      by_cases hd : dgB ((s[0]'h0).toNat : Int) = true
      · rw [if_pos hd, qa2.j0, if_pos rfl, hd]
        simp
      · have hd' : dgB ((s[0]'h0).toNat : Int) = false := by simpa using hd
        rw [if_neg hd, rword_f s (by omega), Option.bind_some, qa2.j0, hd']
        cases hw : (wordsL.any fun u => decide (s = u)) with
        | true => rw [if_pos rfl]; simp
        | false =>
          rw [if_neg (by decide)]
          have := rname_l0 s (by omega) s.size k' 0 (by omega) (by omega)
          rw [List.drop_zero] at this
          refine this.trans (congrArg some ?_)
          cases ha : (s.data.toList.all fun c => ptB c.toNat) with
          | false => simp
          | true =>
            have hm : s[0]'h0 ∈ s.data.toList := Array.getElem_mem_toList _
            have := List.all_eq_true.mp ha _ hm
            rw [this]
            rfl
theorem rName_any (s : ByteArray) (w : World) : Calls Tryz.prog 55 #[.string s] w fun e w' => e = .returned (.bool (nameB s)) ∧ Below w.heap.size w w' :=
  qa2.calls 40 s (nameB s) w (rName_f s (by decide))
theorem empty_list : (⟨#[]⟩ : ByteArray).toList = [] := by rw [ByteArray.toList_eq]
theorem rValid_f (x : S67) : refrainref1_Valid.f x.f0 x.f1 x.f2 x.f3 = some (validB x) := by
  rw [← validB_f]
  unfold refrainref1_Valid.f PValid.value_Valid.f PValid.value_number.f PValid.value_text.f PValid.value_truth.f
  simp only [Option.bind_some, empty_list]
  obtain ⟨a, b, c, d⟩ := x
  simp only
  by_cases h1 : a = 1
  · subst h1
    rw [if_pos rfl, if_pos rfl]
    by_cases hc : c.toList = []
    · rw [if_pos hc, hc]; cases d <;> simp
    · rw [if_neg hc]
      have : (c.toList == []) = false := by simpa using hc
      rw [this]; simp
  · rw [if_neg h1, if_neg h1]
    by_cases h2 : a = 2
    · subst h2
      rw [if_pos rfl, if_pos rfl]
      by_cases hb : b = 0
      · subst hb
        cases d <;> simp
      · rw [if_neg hb]
        have : (b == 0) = false := by simpa using hb
        rw [this]; simp
    · rw [if_neg h2, if_neg h2]
      by_cases h3 : a = 3
      · subst h3
        rw [if_pos rfl, if_pos rfl]
        by_cases hb : b = 0
        · subst hb
          simp
        · rw [if_neg hb]
          have : (b == 0) = false := by simpa using hb
          rw [this]; simp
      · rw [if_neg h3, if_neg h3]
theorem rValid_any (x : S67) (w : World) : Calls Tryz.prog 98 #[.agg #[.int .i64 x.f0, .int .i64 x.f1, .string x.f2, .bool x.f3]] w fun e w' => e = .returned (.bool (validB x)) ∧ Below w.heap.size w w' :=
  refrainref1_Valid.calls x.f0 x.f1 x.f2 x.f3 (validB x) w (rValid_f x)
end Go.Proofs.YtcfgmkmllcfjjaaGreatDoor
