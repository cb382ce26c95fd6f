/- Ahead of the walk of the law PlaceMoments. -/
import Derived.Test.YtgnifglolbfamaaPmC
import Derived.Test.YtgnifglolbfamaaPlP
set_option linter.unusedVariables false
set_option linter.unusedSimpArgs false
namespace Go.Proofs.Ytgnifglolbfamaa
open Go.RowKit Go.Proofs.YtgnifglolbfamaaW.PrintWords

theorem reads_lit {α : Type} {d : Kd α} {w : World} {g e : Nat} {arr : Array Value} (hb : w.heap[g]? = some (.cells arr e (0, 0))) {xs : List α} {n : Nat} (hn : n = xs.length) (hr : Reps (d.K w) d.sz xs arr.toList) (hs : 0 < d.sz) (hm : xs.length ≤ 9223372036854775807) : d.C w (some ⟨g, 0, none⟩) n xs := by
  subst hn
  refine ⟨rfl, hm, fun _ => ⟨_, rfl, fun j p hj => ?_⟩⟩
  have hl := hr.1
  have hjl := (List.getElem?_eq_some_iff.1 hj).1
  have hfit : j * d.sz + d.sz ≤ arr.toList.length := by
    rw [hl]
    have : (j + 1) * d.sz ≤ xs.length * d.sz := Nat.mul_le_mul_right _ hjl
    rw [Nat.add_mul, Nat.one_mul] at this
    exact this
  refine ⟨_, ?_, hr.2 j p hj, fun i u hu => ?_⟩
  · rw [List.length_take, List.length_drop]; omega
  · have hi := (List.getElem?_eq_some_iff.1 hu).1
    rw [List.length_take] at hi
    rw [List.getElem?_take_of_lt (by omega), List.getElem?_drop] at hu
    have e : Addr.add ⟨g, 0, none⟩ (j * d.sz + i) = ⟨g, j * d.sz + i, none⟩ := by
      simp only [Addr.add]
      split
      · rename_i h; rw [h]
      · simp
    rw [e, blk_cell hb, ← Array.getElem?_toList]
    exact hu
theorem anchorTop_err {cs : List Cp} {rs : List Rf} {a b f : Int} (h : anchorTop cs rs = (a, b, f)) (hf : f ≠ 0) : a = 0 ∧ b = 0 := by
  unfold anchorTop at h
  split at h
  · injection h with h1 h; injection h with h2 h; exact ⟨h1.symm, h2.symm⟩
  · unfold anchorOf at h
    split at h
    · injection h with h1 h; injection h with h2 h; exact ⟨h1.symm, h2.symm⟩
    · split at h
      · injection h with h1 h; injection h with h2 h; exact ⟨h1.symm, h2.symm⟩
      · split at h
        · injection h with h1 h; injection h with h2 h; exact absurd h.symm hf
        · split at h
          · injection h with h1 h; injection h with h2 h; exact absurd h.symm hf
          · split at h
            · injection h with h1 h; injection h with h2 h; exact absurd h.symm hf
            · split at h
              · injection h with h1 h; injection h with h2 h; exact absurd h.symm hf
              · injection h with h1 h; injection h with h2 h; exact absurd h.symm hf
theorem anchorTop_ok {cs : List Cp} {rs : List Rf} {a b : Int} (h : anchorTop cs rs = (a, b, 0)) : patErr cs = 0 ∧ anchorOf cs rs = (a, b, 0) := by
  unfold anchorTop at h
  split at h
  · rename_i hp
    injection h with h1 h; injection h with h2 h; exact absurd h hp
  · rename_i hp
    exact ⟨Classical.not_not.1 hp, h⟩

def True_ (w : World) (e : Ending) (w' : World) : Prop := e = .returned (.bool true) ∧ Below w.heap.size w w'
end Go.Proofs.Ytgnifglolbfamaa
