/- A region that draws, walked by hand: one operation after another in a fixed order, those that a guard passes over too. -/
import Derived.Deep.RegionHeld3
set_option linter.unusedVariables false
namespace Go.Proofs.Ytgnifglolbfamaa
open Go

section
variable {P : Program} {md : Region.Mode} {l : List Oper} {Q : Exit → Act → World → Prop} {S : World → Prop} {fuel i : Nat} {oi : Oper} {rest : List Oper} {v : Value} {listed : Array Bool} {a : Act} {w : World}
theorem drop_at (hd : l.drop i = oi :: rest) : l.toArray[i]? = some oi := by
  have h : (l.drop i)[0]? = some oi := by rw [hd]; rfl
  rw [List.getElem?_drop] at h
  simpa using h
theorem takeL (hd : l.drop i = oi :: rest) (hs : Region.noSelect l.toArray = true) (hf : Region.free md l.toArray listed i = true) (hr : (Region.ready md l.toArray listed).contains i = true)
    (hQ : ∀ c a w, Q (.panic c) (a.put oi.dst v) w → Q (.panic c) a w) (hw : Region.wanted oi (yielded l.toArray a.tmps) = true) (hy : ∀ w, S w → (execOp a.eval oi).run P w = .ok (.value v) w) (hS : S w)
    (h : wpAnyH P md l.toArray Q S fuel (listed.setIfInBounds i true) (a.put oi.dst v) w) : wpAnyH P md l.toArray Q S (fuel + 1) listed a w :=
  wpAnyH_take (drop_at hd) hs hf hr hQ (Or.inl ⟨hw, hy⟩) hS h
theorem skipL (hd : l.drop i = oi :: rest) (hs : Region.noSelect l.toArray = true) (hf : Region.free md l.toArray listed i = true) (hr : (Region.ready md l.toArray listed).contains i = true)
    (hQ : ∀ c a w, Q (.panic c) (a.put oi.dst undef) w → Q (.panic c) a w) (hw : Region.wanted oi (yielded l.toArray a.tmps) = false) (hS : S w)
    (h : wpAnyH P md l.toArray Q S fuel (listed.setIfInBounds i true) (a.put oi.dst undef) w) : wpAnyH P md l.toArray Q S (fuel + 1) listed a w :=
  wpAnyH_take (drop_at hd) hs hf hr hQ (Or.inr ⟨hw, rfl⟩) hS h
theorem callL (hd : l.drop i = oi :: rest) (hr : Region.ready md l.toArray listed = [i])
    (h : ∀ K' : Act → World → Prop, Shut (∀ a w, S w → (S w → wpAnyH P md l.toArray Q S fuel (listed.setIfInBounds i true) a w) → K' a w) → if Region.wanted oi (yielded l.toArray a.tmps) = true then Oper.wp P oi a w K' Q else K' (a.put oi.dst undef) w) :
    wpAnyH P md l.toArray Q S (fuel + 1) listed a w :=
  wpAnyH_ready hr (by simp) (AllReadyH.cons (drop_at hd) h AllReadyH.nil)
end
end Go.Proofs.Ytgnifglolbfamaa
