import Derived.Test.YtcfgmkmllcfjjaaDoorZImQ
import Derived.Test.YtcfgmkmllcfjjaaDoorZImC
set_option linter.unusedVariables false
set_option linter.unusedSimpArgs false
namespace Go.Proofs.YtcfgmkmllcfjjaaDoor
open Go.RowKit Go.Proofs.YtcfgmkmllcfjjaaDoorW.PrintWords Go.Proofs.YtcfgmkmllcfjjaaDoorW.PrintMore PImageForm
def sumF (p q : Int) : List Int → Int × Int
  | [] => (p, q)
  | x :: xs => sumF ((p + x) % 65521) ((q + (p + x) % 65521) % 65521) xs
def sumOf (r : Int × Int) : List Int := [(r.2 / 256) % 256, r.2 % 256, (r.1 / 256) % 256, r.1 % 256]
def sumB (l : List Int) : List Int := sumOf (sumF 1 0 l)
theorem sumB_len (l : List Int) : (sumB l).length = 4 := rfl
theorem rd_get {l : List Int} {i : Nat} (h : i < l.length) : rd l (i : Int) = l[i] := by
  unfold rd
  simp [List.getD_eq_getElem?_getD, List.getElem?_eq_getElem h]
theorem sum_l0 {l : List Int} (hB : Bytes l) (hl : l.length ≤ 4611686018427387904) : ∀ (d k i : Nat) (p q : Int), i + d = l.length → d < k → 0 ≤ p → p < 65521 → 0 ≤ q → q < 65521 →
    image_sum.l0 k p q l (l.length : Int) (i : Int) = some (sumOf (sumF p q (l.drop i))) := by
  intro d
  induction d with
  | zero =>
    intro k i p q hi hk h1 h2 h3 h4
    obtain ⟨k', rfl⟩ : ∃ k', k = k' + 1 := ⟨k - 1, by omega⟩
    rw [image_sum.l0, if_neg (by omega), List.drop_eq_nil_of_le (by omega)]
    rfl
  | succ d ih =>
    intro k i p q hi hk h1 h2 h3 h4
    obtain ⟨k', rfl⟩ : ∃ k', k = k' + 1 := ⟨k - 1, by omega⟩
    have hlt : i < l.length := by omega
    rw [image_sum.l0, if_pos (by omega), if_pos (by omega), if_pos (by omega), rd_get hlt, List.drop_eq_getElem_cons hlt, sumF]
    obtain ⟨b0, b1⟩ := hB l[i] (List.getElem_mem hlt)
    generalize l[i] = x at *
    have e1 : wrap64 x = x := w64 b0 (by omega)
    have e2 : wrap64 (p + x) = p + x := w64 (by omega) (by omega)
    have e3 : Int.tmod (p + x) 65521 = (p + x) % 65521 := Int.tmod_eq_emod_of_nonneg (by omega)
    rw [e1, e2, e3]
    have e4 : wrap64 (q + (p + x) % 65521) = q + (p + x) % 65521 := w64 (by omega) (by omega)
    have e5 : Int.tmod (q + (p + x) % 65521) 65521 = (q + (p + x) % 65521) % 65521 := Int.tmod_eq_emod_of_nonneg (by omega)
    have e6 : wrap64 ((i : Int) + 1) = ((i + 1 : Nat) : Int) := by unfold wrap64; omega
    rw [e4, e5, e6]
    exact ih k' (i + 1) _ _ (by omega) (by omega) (by omega) (by omega) (by omega) (by omega)
theorem sum_f {l : List Int} (hB : Bytes l) (hl : l.length ≤ 4611686018427387904) : image_sum.f (l.length + 1) l = some (sumB l) := by
  unfold image_sum.f
  rw [show (0 : Int) = ((0 : Nat) : Int) from rfl, show (1 : Int) = 1 from rfl]
  have := sum_l0 hB hl l.length (l.length + 1) 0 1 0 (by omega) (by omega) (by omega) (by omega) (by omega) (by omega)
  rw [List.drop_zero] at this
  exact this
theorem sum_any {w : World} {A : Option Addr} {c : Nat} {l : List Int} (hC : Kd.C (Kd.int .u8) w A l.length l) (hc : l.length ≤ c) (hB : Bytes l) (hl : l.length ≤ 4611686018427387904) :
    Calls Tryd.prog 13 #[.slice A l.length c] w fun e w' => ∃ g c1, e = .returned (.slice (some ⟨g, 0, none⟩) 4 c1) ∧ BRow w' w.heap.size (.slice (some ⟨g, 0, none⟩) 4 c1) (sumB l) ∧ Below w.heap.size w w' := by
  refine (image_sum.calls (l.length + 1) A c l (sumB l) w hC hc (sum_f hB hl)).mono ?_
  rintro e w' ⟨v, rfl, hr, hb⟩
  have ho := Kd.own_of_R hr
  obtain ⟨g, c1, rfl, _, _⟩ := ho.form (by rw [sumB_len]; omega)
  exact ⟨g, c1, rfl, ho, hb⟩
theorem sumF_rng : ∀ (l : List Int) (p q : Int), 0 ≤ p → p < 65521 → 0 ≤ q → q < 65521 → (0 ≤ (sumF p q l).1 ∧ (sumF p q l).1 < 65521) ∧ (0 ≤ (sumF p q l).2 ∧ (sumF p q l).2 < 65521)
  | [], p, q, h1, h2, h3, h4 => ⟨⟨h1, h2⟩, ⟨h3, h4⟩⟩
  | x :: xs, p, q, h1, h2, h3, h4 => sumF_rng xs _ _ (by omega) (by omega) (by omega) (by omega)
theorem sumB_bytes (l : List Int) : Bytes (sumB l) := by
  intro b hb
  simp only [sumB, sumOf, List.mem_cons, List.not_mem_nil, or_false] at hb
  rcases hb with rfl | rfl | rfl | rfl <;> omega
end Go.Proofs.YtcfgmkmllcfjjaaDoor
