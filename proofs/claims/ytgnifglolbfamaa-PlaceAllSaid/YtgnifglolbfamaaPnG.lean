/- The walk of the law PlaceAll (printed by mkall.py). -/
import Derived.Test.YtgnifglolbfamaaPnD
import Derived.Test.YtgnifglolbfamaaPmF
set_option linter.unusedVariables false
set_option linter.unusedSimpArgs false
namespace Go.Proofs.Ytgnifglolbfamaa
open Go.RowKit Go.Proofs.YtgnifglolbfamaaW.PrintWords

theorem pos_ngI {cs : List Cp} {i : Nat} (hi : i < cs.length) (hn : negB cs i = false) : ngI cs cs.length (stA cs i) = ngI cs i (stA cs i) := by
  have : ∀ j, i ≤ j → j ≤ cs.length → ngI cs j (stA cs i) = ngI cs i (stA cs i) := by
    intro j
    induction j with
    | zero => intro h _; have : i = 0 := by omega
              subst this; rfl
    | succ j ih =>
      intro h hj
      rcases Nat.lt_or_ge i (j + 1) with h1 | h1
      · rw [ngI_succ, ih (by omega) (by omega)]
        have : (negB cs j && stA cs j == stA cs i) = false := by
          rcases Nat.lt_or_ge i j with h2 | h2
          · have := stA_pos cs i j h2 (by omega) hn
            have h3 : (stA cs j == stA cs i) = false := by rw [beq_eq_false_iff_ne]; omega
            rw [h3, Bool.and_false]
          · have : j = i := by omega
            subst this
            rw [hn, Bool.false_and]
        rw [this]
        simp
      · have : i = j + 1 := by omega
        subst this; rfl
  exact this cs.length (by omega) (Nat.le_refl _)
theorem ngI_next {cs : List Cp} {i : Nat} (hi : i < cs.length) (hn : negB cs i = false) : ngI cs (i + 1) (stA cs (i + 1)) = [] := by
  have h1 := stA_succ cs i hi
  rw [hn] at h1
  simp at h1
  cases h : ngI cs (i + 1) (stA cs (i + 1)) with
  | nil => rfl
  | cons a t =>
    have hm : a ∈ ngI cs (i + 1) (stA cs (i + 1)) := by rw [h]; exact List.mem_cons_self
    obtain ⟨h2, _, h3⟩ := ngI_lt hm
    have := stA_mono cs i a (by omega) (by omega)
    omega
theorem anchors_ok {cs : List Cp} {ws : List Ex} (h0 : patErr cs = 0) (he : placeErr cs ws = 0) : ∀ y ∈ ws, ∃ k n : Nat, anchorOf cs (refsOf y) = ((k : Int), (n : Int), 0) := by
  intro y hy
  have h1 : (anchorOf cs (refsOf y)).2.2 = 0 := by
    unfold placeErr at he
    split at he
    · rename_i x hx
      have := List.find?_some hx
      rw [he] at this
      exact absurd this (by decide)
    · rename_i hn
      have := List.find?_eq_none.1 hn y hy
      simpa using this
  generalize hab : anchorOf cs (refsOf y) = r at *
  obtain ⟨a, b, f⟩ := r
  simp only at h1
  subst h1
  obtain ⟨k', n', rfl, rfl, _⟩ := anchor_valid hab h0
  exact ⟨k', n', rfl⟩
theorem tot_all {cs : List Cp} (h0 : patErr cs = 0) : ∀ (ws : List Ex), (∀ y ∈ ws, ∃ k n : Nat, anchorOf cs (refsOf y) = ((k : Int), (n : Int), 0)) → totF cs (fun k i => (placeL cs ws k i).length) = sumN (fun y => 1 + twice cs y) ws := by
  intro ws hok
  have : ∀ j, j ≤ ws.length → totF cs (fun k i => (placeL cs (ws.take j) k i).length) = sumN (fun y => 1 + twice cs y) (ws.take j) := by
    intro j
    induction j with
    | zero =>
      intro _
      rw [List.take_zero]
      unfold totF placeL
      dsimp only [List.foldl_nil]
      rw [sumN_zero _ _ (fun s _ => by cases negB cs s <;> simp)]
      rfl
    | succ j ih =>
      intro hj
      have hjl : j < ws.length := by omega
      obtain ⟨k, n, ha⟩ := hok ws[j] (List.getElem_mem hjl)
      rw [sumN_take_succ _ _ _ hjl, List.take_succ_eq_append_getElem hjl, tot_step ha h0, ih (by omega)]
  have := this ws.length (Nat.le_refl _)
  rwa [List.take_length] at this
/-- What the law reckons at a component. -/
def partF (cs : List Cp) (L : Nat → Nat → List Ex) (i : Nat) : Nat := if negB cs i then (L 4 i).length else (L 1 (stA cs i)).length + (L 2 (stA cs i)).length + (L 3 (stA cs i)).length
theorem totF_part (cs : List Cp) (L : Nat → Nat → List Ex) : totF cs (fun k i => (L k i).length) = (L 5 0).length + sumN (partF cs L) (List.range cs.length) := rfl
theorem sumN_range_succ (f : Nat → Nat) (i : Nat) : sumN f (List.range (i + 1)) = sumN f (List.range i) + f i := by
  rw [List.range_succ, sumN_append]
  simp [sumN]
end Go.Proofs.Ytgnifglolbfamaa
