/- ShellFresh: the lists that were left untouched are written over in the end. -/
import Derived.Test.YtgikkibiinanjaaDoorFrH
set_option linter.unusedVariables false
set_option linter.unusedSimpArgs false
namespace Go.Proofs.YtgikkibiinanjaaDoor
open Go.RowKit

structure Fin (w : World) (base G G2 : Nat) (vL : Value) (xs : List Value) (s : Int) (es : List Rw) (M : Nat → Nat → Value) (vA : Value) (us : UL) (v2 : Value) (xs2 : List Value) (s2 : Int) (es2 : List Rw) (M2 : Nat → Nat → Value) (i : Nat) : Prop where
  book : BookOk w G base vL xs s es es.length M
  last : BookOk w G2 base v2 xs2 s2 es2 0 M2
  own : w.ownsRow base 22 1 vA us.length (valsOf us)
  rows : ∀ u ∈ us, ∃ f, u.1.In w f
  lens : ∀ u ∈ us, u.1.n ≤ 10000
  dist : DistU us
  big : ∀ u ∈ us, ∀ g, u.1.g = some g → base ≤ g
  off : Off es us
  neG : G ≠ G2
  apL : Ap v2 vL
  apA : Ap v2 vA
  sub : ∀ r ∈ es2, ∃ (j : Nat) (h : j < us.length), j < i ∧ us[j].1 = r
  sb : s2 ≤ (i : Int) * 410000
section
variable {w w' : World} {base G G2 : Nat} {vL : Value} {xs : List Value} {s : Int} {es : List Rw} {M : Nat → Nat → Value} {vA : Value} {us : UL} {v2 : Value} {xs2 : List Value} {s2 : Int} {es2 : List Rw} {M2 : Nat → Nat → Value} {i : Nat}
/-- What is written by the last Book is none of the first one's. -/
theorem Fin.offB (h : Fin w base G G2 vL xs s es M vA us v2 xs2 s2 es2 M2 i) : ∀ k, BookS G vL es k → ¬ (k = G2 ∨ v2.ownBlock = some k ∨ ∃ u ∈ us, u.1.g = some k) := by
  intro k hk hS
  rcases hk with rfl | hk | ⟨r, hr, hk⟩
  · rcases hS with hS | hS | ⟨u, hu, hS⟩
    · exact h.neG hS
    · obtain ⟨cur, hc⟩ := own_blk h.last.at_.2 _ hS
      exact ne_type h.book.at_.1 hc (by decide) rfl
    · obtain ⟨f, hf⟩ := h.rows u hu
      obtain ⟨cur, hc⟩ := hf.blk _ hS
      exact ne_type h.book.at_.1 hc (by decide) rfl
  · obtain ⟨cur, hc⟩ := own_blk h.book.at_.2 _ hk
    rcases hS with rfl | hS | ⟨u, hu, hS⟩
    · exact ne_type hc h.last.at_.1 (by decide) rfl
    · exact h.apL k hS hk
    · obtain ⟨f, hf⟩ := h.rows u hu
      obtain ⟨cur', hc'⟩ := hf.blk _ hS
      exact ne_type hc hc' (by decide) rfl
  · obtain ⟨cur, hc⟩ := (h.book.in_ r hr).blk k hk
    rcases hS with rfl | hS | ⟨u, hu, hS⟩
    · exact ne_type hc h.last.at_.1 (by decide) rfl
    · obtain ⟨cur', hc'⟩ := own_blk h.last.at_.2 _ hS
      exact ne_type hc hc' (by decide) rfl
    · exact h.off r hr k hk u hu hS

theorem Fin.step (h : Fin w base G G2 vL xs s es M vA us v2 xs2 s2 es2 M2 i) (hB : base ≤ w.heap.size) (ht : Tab base w) (hi : i < us.length) (hib : i ≤ 100000000) :
    Calls Tryd.prog 9 #[.pointer (some ⟨G2, 0, none⟩), us[i].1.v us[i].1.n] w fun e w' => e = .returned (.tuple #[]) ∧ Below base w w' ∧ ∃ v2' xs2' s2' es2' M2', Fin w' base G G2 vL xs s es M vA us v2' xs2' s2' es2' M2' (i + 1) := by
  obtain ⟨f, hf⟩ := h.rows us[i] (List.getElem_mem hi)
  have hln := h.lens us[i] (List.getElem_mem hi)
  have hsb := h.sb
  refine (fillB h.last hB ht us[i].1 f hf (h.big us[i] (List.getElem_mem hi)) (fun g hg r hr h1 => ?_) (by omega)).mono ?_
  · obtain ⟨j, hj, hji, rfl⟩ := h.sub r hr
    have := h.dist i j hi hj g hg h1
    omega
  rintro e w' ⟨rfl, v2', xs2', es2', M2', f', hok, hes, hOn, hat, hIn⟩
  have hS : ∀ k, (k = G2 ∨ v2.ownBlock = some k ∨ us[i].1.g = some k) → (k = G2 ∨ v2.ownBlock = some k ∨ ∃ u ∈ us, u.1.g = some k) := fun k hk => by
    rcases hk with h1 | h1 | h1
    · exact Or.inl h1
    · exact Or.inr (Or.inl h1)
    · exact Or.inr (Or.inr ⟨us[i], List.getElem_mem hi, h1⟩)
  refine ⟨rfl, hOn.below hB (fun k hk hk2 => ?_), v2', xs2', _, es2', M2', ⟨h.book.only hOn (fun k hk hk2 => h.offB k hk (hS k hk2)), hok, own_only h.own hOn (fun k hk hk2 => ?_), fun u hu => ?_, h.lens, h.dist, h.big, h.off, h.neG, ?_, ?_, ?_, ?_⟩⟩
  · rcases hk2 with rfl | h1 | h1
    · have := h.last.big; omega
    · have := (h.last.at_.2.lt k h1).1; omega
    · have := h.big us[i] (List.getElem_mem hi) k h1; omega
  · obtain ⟨cur, hc⟩ := own_blk h.own k hk
    rcases hk2 with rfl | h1 | h1
    · exact ne_type hc h.last.at_.1 (by decide) rfl
    · exact h.apA k h1 hk
    · obtain ⟨cur', hc'⟩ := hf.blk k h1
      exact ne_type hc hc' (by decide) rfl
  · obtain ⟨j, hj, rfl⟩ := List.getElem_of_mem hu
    by_cases e : j = i
    · subst e; exact ⟨f', hIn⟩
    · obtain ⟨fj, hfj⟩ := h.rows us[j] hu
      refine ⟨fj, hfj.only hOn (fun g hg hg2 => ?_)⟩
      obtain ⟨cur, hc⟩ := hfj.blk g hg
      rcases hg2 with rfl | h1 | h1
      · exact ne_type hc h.last.at_.1 (by decide) rfl
      · obtain ⟨cur', hc'⟩ := own_blk h.last.at_.2 _ h1
        exact ne_type hc hc' (by decide) rfl
      · exact e (h.dist j i hj hi g hg h1)
  · intro k hk h1
    rcases hat with h2 | ⟨k', h2, h3⟩
    · exact h.apL k (h2 ▸ hk) h1
    · rw [h2] at hk; have := Option.some.inj hk; have := (h.book.S_lt k (Or.inr (Or.inl h1))).2; omega
  · intro k hk h1
    rcases hat with h2 | ⟨k', h2, h3⟩
    · exact h.apA k (h2 ▸ hk) h1
    · rw [h2] at hk; have := Option.some.inj hk; have := (h.own.lt k h1).2; omega
  · intro r hr
    rcases hes with rfl | rfl
    · obtain ⟨j, hj, hji, e⟩ := h.sub r hr
      exact ⟨j, hj, by omega, e⟩
    · rcases List.mem_append.1 hr with hr | hr
      · obtain ⟨j, hj, hji, e⟩ := h.sub r hr
        exact ⟨j, hj, by omega, e⟩
      · exact ⟨i, hi, by omega, (by simpa using hr : r = us[i].1).symm⟩
  · omega
/-- Behind grow both Books are whole. -/
theorem Fin.grow (h : Fin w base G G2 vL xs s es M vA us v2 xs2 s2 es2 M2 i) (hB : base ≤ w.heap.size) (ht : Tab base w) :
    Calls Tryd.prog 10 #[.pointer (some ⟨G2, 0, none⟩)] w fun e w' => e = .returned (.tuple #[]) ∧ Below base w w' ∧ BookOk w' G base vL xs s es es.length M ∧ ∃ xs2' M2', BookOk w' G2 base v2 xs2' s2 es2 es2.length M2' := by
  refine (growB h.last hB ht).mono ?_
  rintro e w' ⟨rfl, xs2', M2', hok, hOn⟩
  refine ⟨rfl, hOn.below hB (fun k hk hS => by have := (h.last.S_lt k hS).1; omega), h.book.only hOn (fun k hk hS => h.offB k hk ?_), xs2', M2', hok⟩
  rcases hS with h1 | h1 | ⟨r, hr, h1⟩
  · exact Or.inl h1
  · exact Or.inr (Or.inl h1)
  · obtain ⟨j, hj, _, rfl⟩ := h.sub r hr
    exact Or.inr (Or.inr ⟨us[j], List.getElem_mem hj, h1⟩)
/-- Where the last Book begins. -/
theorem St.fin {vW : Value} {ws : UL} (h : St w base G vL xs s es M vA us vW ws) (hl : ∀ u ∈ us, u.2.length ≤ 10000) (hb : base ≤ w.heap.size) :
    Fin (w.alloc (.cells #[.slice none 0 0, .int .i64 0, .int .i64 0] 26)) base G w.heap.size vL xs s es M vA us (.slice none 0 0) [] 0 [] (fun _ _ => undef) 0 := by
  have hbl : Below w.heap.size w (w.alloc (.cells #[.slice none 0 0, .int .i64 0, .int .i64 0] 26)) := below_alloc' _
  have hA := h.all.below hbl
  refine ⟨h.book.below hbl, ⟨⟨heap_alloc_new w _, World.ownsRow_nil _ _ _ _⟩, ⟨rfl, fun k hk => by simp at hk⟩, Nat.le_refl _, fun r hr => by simp at hr, fun i j hi => by simp at hi, fun k hk => by simp at hk, fun r hr => by simp at hr, hb, by simp, by simp⟩, hA.own, fun u hu => ?_, fun u hu => ?_, hA.dist, hA.big, h.offU, ?_, ?_, ?_, fun r hr => by simp at hr, by simp⟩
  · obtain ⟨f, hf, _⟩ := hA.rows u hu
    exact ⟨f, hf⟩
  · obtain ⟨f, _, hn, _⟩ := hA.rows u hu
    rw [hn]; exact hl u hu
  · have := blk_lt' h.book.at_.1; omega
  · intro k hk; simp [Value.ownBlock] at hk
  · intro k hk; simp [Value.ownBlock] at hk
end
end Go.Proofs.YtgikkibiinanjaaDoor
