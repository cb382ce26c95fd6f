/- A map of names to whole numbers that the call itself has made. -/
import Derived.Test.YtgnifglolbfamaaPlC
import Derived.Maps.Own
import Derived.Maps.OwnOps
import Derived.Maps.OwnSet
import Derived.Maps.Views
import Derived.Deep.WholeRow
set_option linter.unusedVariables false
set_option linter.unusedSimpArgs false
namespace Go.Proofs.Ytgnifglolbfamaa
open Go.RowKit Go.Proofs.YtgnifglolbfamaaW.PrintWords

theorem keyOf_name (s : ByteArray) (hs : s.size ≤ maxLen) : keyOf Try.prog 9 (.string s) = some (.string s.data.toList) := by
  simp [keyOf, mapKey, Try.underlying9, hs]
theorem zero3 (w : World) : (zeroValue 3).run Try.prog w = .ok (.int .i64 0) w :=
  (zero_of_info (P := Try.prog) (t := 3) (v := .int .i64 0) (n := 1) (by kernel_rfl)).1 w

/-- Block b is a map of at most n names that reads as f. -/
def KeyMap (w : World) (b n : Nat) (f : List UInt8 → Option Int) : Prop :=
  ∃ D : DataW Unit, w.ownsMap Try.prog 9 (plainElem Try.prog 3) b n D ∧ Maps.IsMap D ∧ ∀ s, Maps.has D (.string s) = (f s).isSome ∧ D.atKey (.string s) (.lit (.int .i64 0)) = .lit (.int .i64 ((f s).getD 0))

theorem KeyMap.made (w : World) : KeyMap (w.alloc (.map #[] 0)) w.heap.size 0 (fun _ => none) :=
  ⟨.map [], World.ownsMap_made w _ _ _, Maps.isMap_empty, fun s => ⟨rfl, rfl⟩⟩
theorem KeyMap.lt {w : World} {b n : Nat} {f} (h : KeyMap w b n f) : b < w.heap.size := by obtain ⟨D, h, _⟩ := h; exact h.lt
theorem KeyMap.kept {w w' : World} {b n : Nat} {f} {row : Option Nat} (h : KeyMap w b n f) (hg : w.grownBy w' row) (hne : some b ≠ row) : KeyMap w' b n f := by
  obtain ⟨D, h, r⟩ := h
  exact ⟨D, h.kept hg hne, r⟩
theorem KeyMap.below {w w' : World} {b n : Nat} {f} (h : KeyMap w b n f) (hb : Below w.heap.size w w') : KeyMap w' b n f := h.kept (grown_of_below hb none) (by simp)
theorem KeyMap.set {w : World} {b n : Nat} {f} (h : KeyMap w b n f) {p : Addr} (hp : b ≠ p.block) (v : Value) : KeyMap (w.setCell p v) b n f := by
  obtain ⟨D, ⟨es, clock, hb, r⟩, r2⟩ := h
  exact ⟨D, ⟨es, clock, (Below.heap_setCell w p v b hp).trans hb, r⟩, r2⟩
theorem KeyMap.ok {w : World} {b n : Nat} {f} (h : KeyMap w b n f) (s : ByteArray) (hs : s.size ≤ maxLen) :
    (Instr.lookup 122 (.map (some b)) (.string s) true).run Try.prog w = .ok (.tuple #[.int .i64 ((f s.data.toList).getD 0), .bool (f s.data.toList).isSome]) w := by
  obtain ⟨D, h, _, hf⟩ := h
  obtain ⟨v, ps, hrun, hv⟩ := h.look_ok (Maps.string_keyed Try.underlying9) Try.underlying122 (zero3 w) (plainElem_int Try.underlying3 (by decide)) (keyOf_name s hs)
  obtain ⟨c, rfl, hc, hwc⟩ := plainElem_int_inv Try.underlying3 hv
  simp only [Prod.mk.injEq] at hc
  rw [(hf _).1] at hrun
  rw [(hf _).2] at hc
  obtain rfl : (f s.data.toList).getD 0 = c := by
    have := hc.1
    simpa using this
  exact hrun
theorem KeyMap.at_ {w : World} {b n : Nat} {f} (h : KeyMap w b n f) (s : ByteArray) (hs : s.size ≤ maxLen) :
    (Instr.lookup 122 (.map (some b)) (.string s) false).run Try.prog w = .ok (.int .i64 ((f s.data.toList).getD 0)) w := by
  obtain ⟨D, h, _, hf⟩ := h
  obtain ⟨c, hrun, hc, hwc⟩ := h.lookup_int (Maps.string_keyed Try.underlying9) Try.underlying122 Try.underlying3 (zero3 w) (keyOf_name s hs)
  rw [(hf _).2] at hc
  obtain rfl : (f s.data.toList).getD 0 = c := by simpa using hc
  exact hrun
theorem KeyMap.put {w : World} {b n : Nat} {f} (h : KeyMap w b n f) (hn : n < maxLen) (s : ByteArray) (hs : s.size ≤ maxLen) (x : Int) (hx : (Lit.int .i64 x).wf = true) :
    ∃ w', (Instr.mapUpdate 122 (.map (some b)) (.string s) (.int .i64 x)).run Try.prog w = .ok () w' ∧ KeyMap w' b (n + 1) (fun t => if t = s.data.toList then some x else f t) ∧ w.grownBy w' (some b) := by
  obtain ⟨D, h, hm, hf⟩ := h
  obtain ⟨w', hrun, ho, hg⟩ := h.update (Maps.string_keyed Try.underlying9) Try.underlying122 hn (keyOf_name s hs) (plainElem_int (H := Unit) Try.underlying3 hx)
  refine ⟨w', hrun, ⟨_, ho, hm.put _ _, fun t => ?_⟩, hg⟩
  by_cases ht : t = s.data.toList
  · subst ht
    simp only [if_true]
    exact ⟨Maps.has_put_same hm (show WideAt.IsKeyLit (.string s.data.toList) from trivial) _, Maps.atKey_put_same hm (show WideAt.IsKeyLit (.string s.data.toList) from trivial) _ _⟩
  · have hne : (Lit.string t) ≠ .string s.data.toList := by simpa using ht
    simp only [if_neg ht]
    rw [Maps.has_put_other hne, Maps.atKey_put_other hne]
    exact hf t
end Go.Proofs.Ytgnifglolbfamaa
