/- ShellFresh: the state of its loop. -/
import Derived.Test.YtgikkibiinanjaaDoorFrG
set_option linter.unusedVariables false
set_option linter.unusedSimpArgs false
namespace Go.Proofs.YtgikkibiinanjaaDoor
open Go.RowKit

structure St (w : World) (base G : Nat) (vL : Value) (xs : List Value) (s : Int) (es : List Rw) (M : Nat → Nat → Value) (vA : Value) (us : UL) (vW : Value) (ws : UL) : Prop where
  book : BookOk w G base vL xs s es es.length M
  all : UOk w base vA us
  were : UOk w base vW ws
  offU : Off es us
  offW : Off es ws
  apA : Ap vL vA
  apW : Ap vL vW
  apAW : Ap vA vW
section
variable {w w' : World} {base G : Nat} {vL : Value} {xs : List Value} {s : Int} {es : List Rw} {M : Nat → Nat → Value} {vA : Value} {us : UL} {vW : Value} {ws : UL}
theorem St.below (h : St w base G vL xs s es M vA us vW ws) (hb : Below w.heap.size w w') : St w' base G vL xs s es M vA us vW ws :=
  ⟨h.book.below hb, h.all.below hb, h.were.below hb, h.offU, h.offW, h.apA, h.apW, h.apAW⟩
/-- A block of the lists that are left untouched is none of the Book's. -/
theorem St.offS (h : St w base G vL xs s es M vA us vW ws) : (∀ j, USet vA us j → ¬ BookS G vL es j) ∧ ∀ j, USet vW ws j → ¬ BookS G vL es j := by
  have main : ∀ (v : Value) (us : UL), UOk w base v us → Off es us → Ap vL v → ∀ j, USet v us j → ¬ BookS G vL es j := by
    intro v us hu ho ha j hj hS
    obtain ⟨b1, b2⟩ := hu.blk
    rcases hj with hj | ⟨u, hu', hj⟩
    · obtain ⟨cur, hc⟩ := b1 j hj
      rcases hS with rfl | hS | ⟨r, hr, hS⟩
      · exact ne_type hc h.book.at_.1 (by decide) rfl
      · exact ha j hS hj
      · obtain ⟨cur', hc'⟩ := (h.book.in_ r hr).blk j hS
        exact ne_type hc hc' (by decide) rfl
    · obtain ⟨cur, hc⟩ := b2 u hu' j hj
      rcases hS with rfl | hS | ⟨r, hr, hS⟩
      · exact ne_type hc h.book.at_.1 (by decide) rfl
      · obtain ⟨cur', hc'⟩ := own_blk h.book.at_.2 j hS
        exact ne_type hc hc' (by decide) rfl
      · exact ho r hr j hS u hu' hj
  exact ⟨main vA us h.all h.offU h.apA, main vW ws h.were h.offW h.apW⟩

theorem St.keep {W : World} (h : St w base G vL xs s es M vA us vW ws) (hbW : Below w.heap.size w W) (hB : base ≤ W.heap.size) (hbase : base ≤ w.heap.size) (ht : Tab base W) (a b : Rw) (l : List (List UInt8)) (ha : URow W a l) (hb : URow W b l) (ga : ∀ g, a.g = some g → w.heap.size ≤ g) (gb : ∀ g, b.g = some g → w.heap.size ≤ g)
    (hab : ∀ g, a.g = some g → b.g ≠ some g) (hl : l.length ≤ 10000) (hs1 : s ≤ 8000000000000000000) :
    Calls Tryd.prog 7 #[.pointer (some ⟨G, 0, none⟩), a.v a.n] W fun e w' => e = .returned (.tuple #[]) ∧ ∃ vL' xs' es' M', St w' base G vL' xs' (s + 1000 + 40 * (l.length : Int)) es' M' vA us vW ws ∧ URow w' b l ∧ (∀ r ∈ es', ∀ g, r.g = some g → b.g ≠ some g) ∧ Below base W w' := by
  have hW := h.below hbW
  obtain ⟨f, hf1, hf2, hf3⟩ := ha
  have hltE : ∀ r ∈ es, ∀ g, r.g = some g → g < w.heap.size := fun r hr => (h.book.in_ r hr).lt
  have hltA := h.all.lt
  have hltW := h.were.lt
  refine (keepB hW.book hB ht a f hf1 (fun g hg => by have := ga g hg; omega) (fun g hg r hr h1 => by have := ga g hg; have := hltE r hr g h1; omega) (by omega)).mono ?_
  rintro e w' ⟨rfl, vL', xs', es', M', hok, hes, hOn, hat⟩
  have hbd : ∀ j, j < base → ¬ (BookS G vL es j ∨ a.g = some j) := by
    intro j hj hS
    rcases hS with hS | hS
    · have := (hW.book.S_lt j hS).1; omega
    · have := ga j hS; omega
  obtain ⟨o1, o2⟩ := hW.offS
  rw [hf2] at hok
  refine ⟨rfl, vL', xs', es', M', ⟨hok, hW.all.only hOn ?_, hW.were.only hOn ?_, ?_, ?_, ?_, ?_, h.apAW⟩, hb.only hOn ?_, ?_, hOn.below hB hbd⟩
  · intro j hj hS
    rcases hS with hS | hS
    · exact o1 j hj hS
    · have := hltA j hj; have := ga j hS; omega
  · intro j hj hS
    rcases hS with hS | hS
    · exact o2 j hj hS
    · have := hltW j hj; have := ga j hS; omega
  · intro r hr g hg u hu h1
    rcases hes with rfl | rfl
    · exact h.offU r hr g hg u hu h1
    · rcases List.mem_append.1 hr with hr | hr
      · exact h.offU r hr g hg u hu h1
      · obtain rfl : r = a := by simpa using hr
        have := ga g hg; have := hltA g (Or.inr ⟨u, hu, h1⟩); omega
  · intro r hr g hg u hu h1
    rcases hes with rfl | rfl
    · exact h.offW r hr g hg u hu h1
    · rcases List.mem_append.1 hr with hr | hr
      · exact h.offW r hr g hg u hu h1
      · obtain rfl : r = a := by simpa using hr
        have := ga g hg; have := hltW g (Or.inr ⟨u, hu, h1⟩); omega
  · intro j hj h1
    rcases hat with h2 | ⟨j', h2, h3⟩
    · exact h.apA j (h2 ▸ hj) h1
    · rw [h2] at hj; have := Option.some.inj hj; have := hltA j (Or.inl h1); have := hbW.size; omega
  · intro j hj h1
    rcases hat with h2 | ⟨j', h2, h3⟩
    · exact h.apW j (h2 ▸ hj) h1
    · rw [h2] at hj; have := Option.some.inj hj; have := hltW j (Or.inl h1); have := hbW.size; omega
  · intro g hg hS
    rcases hS with hS | hS
    · obtain ⟨cur, hc⟩ := hb.blk g hg
      rcases hS with rfl | hS | ⟨r, hr, hS⟩
      · exact ne_type hc hW.book.at_.1 (by decide) rfl
      · obtain ⟨cur', hc'⟩ := own_blk hW.book.at_.2 g hS
        exact ne_type hc hc' (by decide) rfl
      · have := gb g hg; have := hltE r hr g hS; omega
    · exact hab g hS hg
  · intro r hr g hg h1
    rcases hes with rfl | rfl
    · have := gb g h1; have := hltE r hr g hg; omega
    · rcases List.mem_append.1 hr with hr | hr
      · have := gb g h1; have := hltE r hr g hg; omega
      · obtain rfl : r = a := by simpa using hr
        exact hab g hg h1
/-- The list of all grows by two. -/
theorem St.addU {vA' : Value} (h : St w base G vL xs s es M vA us vW ws) (hOn : Only (fun j => vA.ownBlock = some j) w w') (b c : Rw) (l : List (List UInt8)) (hown : w'.ownsRow base 22 1 vA' (us.length + 2) (valsOf us ++ [b.v b.n, c.v c.n]))
    (hat : vA'.ownBlock = vA.ownBlock ∨ ∃ j, vA'.ownBlock = some j ∧ w.heap.size ≤ j) (hb : URow w b l) (hc : URow w c l) (hbc : ∀ g, b.g = some g → c.g ≠ some g)
    (fb : ∀ g, b.g = some g → base ≤ g ∧ (∀ u ∈ us, u.1.g ≠ some g) ∧ ∀ r ∈ es, r.g ≠ some g) (fc : ∀ g, c.g = some g → base ≤ g ∧ (∀ u ∈ us, u.1.g ≠ some g) ∧ ∀ r ∈ es, r.g ≠ some g) :
    St w' base G vL xs s es M vA' (us ++ [(b, l), (c, l)]) vW ws := by
  have hltB := h.book.S_lt
  have hltW := h.were.lt
  have hrow : ∀ (r : Rw), (∀ g, r.g = some g → ∃ cur, w.heap[g]? = some (.cells cur 9 (0, 0))) → ∀ g, r.g = some g → ¬ vA.ownBlock = some g := by
    intro r hr g hg hS
    obtain ⟨cur, hc⟩ := hr g hg
    obtain ⟨cur', hc'⟩ := own_blk h.all.own g hS
    exact ne_type hc hc' (by decide) rfl
  refine ⟨h.book.only hOn (fun j hj hS => h.offS.1 j (Or.inl hS) hj), h.all.two hOn (fun u hu => hrow u.1 (h.all.blk.2 u hu)) (b, l) (c, l) hown (hb.only hOn (hrow b hb.blk)) (hc.only hOn (hrow c hc.blk)) hbc (fun g hg => ⟨(fb g hg).1, (fb g hg).2.1⟩) (fun g hg => ⟨(fc g hg).1, (fc g hg).2.1⟩), h.were.only hOn ?_, ?_, h.offW, ?_, h.apW, ?_⟩
  · intro j hj hS
    rcases hj with hj | ⟨u, hu, hj⟩
    · exact h.apAW j hS hj
    · exact hrow u.1 (h.were.blk.2 u hu) j hj hS
  · intro r hr g hg u hu h1
    rcases List.mem_append.1 hu with hu | hu
    · exact h.offU r hr g hg u hu h1
    · simp at hu
      rcases hu with rfl | rfl
      · exact (fb g h1).2.2 r hr hg
      · exact (fc g h1).2.2 r hr hg
  · intro j hj h1
    rcases hat with h2 | ⟨j', h2, h3⟩
    · exact h.apA j hj (h2 ▸ h1)
    · rw [h2] at h1; have := Option.some.inj h1; have := (hltB j (Or.inr (Or.inl hj))).2; omega
  · intro j hj h1
    rcases hat with h2 | ⟨j', h2, h3⟩
    · exact h.apAW j (h2 ▸ hj) h1
    · rw [h2] at hj; have := Option.some.inj hj; have := hltW j (Or.inl h1); omega
theorem St.swap (h : St w base G vL xs s es M vA us vW ws) : St w base G vL xs s es M vW ws vA us :=
  ⟨h.book, h.were, h.all, h.offW, h.offU, h.apW, h.apA, fun j h1 h2 => h.apAW j h2 h1⟩
end
end Go.Proofs.YtgikkibiinanjaaDoor
