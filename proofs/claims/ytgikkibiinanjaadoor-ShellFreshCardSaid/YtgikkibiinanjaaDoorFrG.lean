/- ShellFresh: rows that are left untouched, and the state of its loop. -/
import Derived.Test.YtgikkibiinanjaaDoorFrF
import Derived.Laws.AppendOwnNone
set_option linter.unusedVariables false
set_option linter.unusedSimpArgs false
namespace Go.Proofs.YtgikkibiinanjaaDoor
open Go.RowKit

theorem wread_len : ∀ (f : Nat) (acc : List (List UInt8)) (l : List UInt8) (ws : List (List UInt8)), wread f acc l = some ws → ws.length ≤ acc.length + f
  | 0, acc, l, ws, h => by simp [wread] at h
  | f + 1, acc, [], ws, h => by simp [wread] at h; subst h; omega
  | f + 1, acc, c :: r, ws, h => by
    simp only [wread] at h
    split at h
    · have := wread_len f acc r ws h; omega
    · split at h
      · split at h
        · have := wread_len f _ _ ws h; simp at this; omega
        · cases h
      · split at h
        · have := wread_len f _ _ ws h; simp at this; omega
        · cases h
theorem words_len (l : List UInt8) : (wordsOf l).1.length ≤ 10000 := by
  unfold wordsOf
  split
  · simp
  · split
    · simp
    · split
      · rename_i ws h
        have := wread_len _ _ _ _ h
        simp at this ⊢
        omega
      · simp

/-- A row that reads as these words. -/
def URow (w : World) (r : Rw) (l : List (List UInt8)) : Prop := ∃ f, r.In w f ∧ r.n = l.length ∧ ∀ i (h : i < l.length), f i = strv l[i]
theorem URow.only {w w' : World} {r : Rw} {l : List (List UInt8)} {S : Nat → Prop} (h : URow w r l) (ho : Only S w w') (hn : ∀ g, r.g = some g → ¬ S g) : URow w' r l := by
  obtain ⟨f, h1, h2, h3⟩ := h
  exact ⟨f, h1.only ho hn, h2, h3⟩
theorem URow.strs {w : World} {r : Rw} {l : List (List UInt8)} (h : URow w r l) : StrsAt w (r.v r.n) l := by
  obtain ⟨f, h1, h2, h3⟩ := h
  exact Rw.strs h1 l h2 h3
theorem URow.lt {w : World} {r : Rw} {l : List (List UInt8)} (h : URow w r l) : ∀ g, r.g = some g → g < w.heap.size := by
  obtain ⟨f, h1, _⟩ := h
  exact h1.lt
theorem URow.blk {w : World} {r : Rw} {l : List (List UInt8)} (h : URow w r l) : ∀ g, r.g = some g → ∃ cur, w.heap[g]? = some (.cells cur 9 (0, 0)) := by
  obtain ⟨f, h1, _⟩ := h
  exact h1.blk
theorem URow.of_own {w : World} {base : Nat} {v : Value} {l : List (List UInt8)} (h : w.ownsRow base 9 1 v l.length (l.map strv)) : ∃ r : Rw, v = r.v r.n ∧ URow w r l ∧ ∀ g, r.g = some g → base ≤ g := by
  obtain ⟨r, f, h1, h2, h3, h4, h5⟩ := Rw.of_own h
  exact ⟨r, by rw [h2]; exact h1, ⟨f, h3, h2, fun i hi => h5 i _ (by simp [List.getElem?_eq_getElem hi])⟩, h4⟩
/-- words, in new memory. -/
theorem words_row (s : ByteArray) (w : World) : Calls Tryd.prog 5 #[.string s] w fun e w' => ∃ r : Rw, e = .returned (.tuple #[r.v r.n, .int .i64 (wordsOf s.data.toList).2]) ∧ Below w.heap.size w w' ∧ URow w' r (wordsOf s.data.toList).1 ∧ ∀ g, r.g = some g → w.heap.size ≤ g := by
  refine (words_any s w).mono ?_
  rintro e w' ⟨hb, v, rfl, ho⟩
  obtain ⟨r, rfl, hr, hg⟩ := URow.of_own ho
  exact ⟨r, rfl, hb, hr, hg⟩

section
variable {P : Program} {ops : Array Oper} {rest : List Oper} {o : Oper} {a : Act} {Q : Exit → Act → World → Prop}
/-- append([]string(nil), b...): a copy. -/
theorem app_copy {W : World} (hgd : o.guard = none) (s x : Operand) (ho : o.op = .call { callee := .builtin .append, args := #[s, x], argTypes := #[22, 22] })
    (r : Rw) (l : List (List UInt8)) (A : Option Addr) (n c : Nat) (hr : URow W r l) (he : r.v r.n = .slice A n c) (hl : l.length ≤ 10000) (hs : a.eval s = .slice none 0 0) (hx : a.eval x = .slice A n c)
    (h : ∀ (r' : Rw) w1, Hid (URow w1 r' l) → Hid (Below W.heap.size W w1) → Hid (∀ g, r'.g = some g → W.heap.size ≤ g) → wpList Tryd.prog ops Q rest (a.put o.dst (.slice r'.A r'.n r'.cap)) w1) :
    wpList Tryd.prog ops Q (o :: rest) a W := by
  obtain ⟨i0, hi, hz0, hz1, hz2⟩ := info_parts infoStr
  obtain ⟨f, h1, h2, h3⟩ := hr
  rw [← he] at hx
  rcases hg : r.g with _ | g
  · have hc := h1.2
    rw [hg] at hc
    simp only at hc
    have hn : r.n = 0 := by have := h1.le; omega
    have e : r.v r.n = .slice none 0 0 := by unfold Rw.v Rw.A; rw [hg, hn, hc]; rfl
    rw [e] at hx
    have hl0 : l = [] := List.eq_nil_of_length_eq_zero (by omega)
    subst hl0
    refine wpList_append_own_none hgd s x 22 ho W.heap.size 9 i0 1 Tryd.underlying22 hi (.slice none 0 0) 0 [] hs (World.ownsRow_nil _ _ _ _) hx ?_
    exact h ⟨none, 0, 0⟩ W (Lib.hid ⟨fun _ => .string ⟨#[]⟩, ⟨Nat.le_refl _, rfl⟩, rfl, fun i hi => absurd hi (Nat.not_lt_zero _)⟩) (Lib.hid (Below.refl _ _)) (Lib.hid (fun g hg => by cases hg))
  · have e : r.v r.n = .slice (some ⟨g, 0, none⟩) r.n r.cap := by unfold Rw.v; rw [Rw.A_some hg]
    rw [e] at hx
    have h1' := h1.2
    rw [hg] at h1'
    have hle := h1.le
    refine wpList_append_own_at W hgd s x 22 ho W.heap.size 9 i0 (.string ⟨#[]⟩) 1 16 Tryd.underlying22 hi hz0 hz1 hz2 rfl (by omega) (.slice none 0 0) 0 [] hs (World.ownsRow_nil _ _ _ _) ⟨g, 0, none⟩ r.n r.cap (l.map strv) hx (by simp [h2])
      ?c1 ?c2 (by simp only [maxLen]; omega) (by omega) (Nat.le_refl _) ?_
    case c1 =>
      intro j z hj
      have ea : (⟨g, 0, none⟩ : Addr).add j = ⟨g, j, none⟩ := by unfold Addr.add; split <;> simp_all
      have hjl : j < l.length := by have := (List.getElem?_eq_some_iff.1 hj).1; simpa using this
      rw [ea, h1'.2.cell (by omega), h3 j hjl]
      simpa [List.getElem?_eq_getElem hjl] using hj
    case c2 => intro z hz; obtain ⟨y, _, rfl⟩ := List.mem_map.1 hz; rfl
    intro v1 w1 hown hgr _ hat
    simp only [List.nil_append, Nat.zero_add] at hown
    rw [h2] at hown
    obtain ⟨r', rfl, hr', hgg⟩ := URow.of_own hown
    exact h r' w1 (Lib.hid hr') (Lib.hid ((Below.refl _ _).grown hgr (Nat.le_refl _) (fun k hk => by cases hk))) (Lib.hid hgg)
end

abbrev UL := List (Rw × List (List UInt8))
def valsOf (us : UL) : List Value := us.map (fun u => u.1.v u.1.n)
theorem valsOf_get (us : UL) (i : Nat) (h : i < us.length) : (valsOf us)[i]? = some (us[i].1.v us[i].1.n) := by unfold valsOf; simp [List.getElem?_eq_getElem h]
theorem valsOf_len (us : UL) : (valsOf us).length = us.length := by unfold valsOf; simp
def Ap (v1 v2 : Value) : Prop := ∀ k, v1.ownBlock = some k → v2.ownBlock ≠ some k
/-- no block of a row of es is one of a row of us. -/
def Off (es : List Rw) (us : UL) : Prop := ∀ r ∈ es, ∀ g, r.g = some g → ∀ u ∈ us, u.1.g ≠ some g
def DistU (us : UL) : Prop := ∀ i j (hi : i < us.length) (hj : j < us.length) (g : Nat), us[i].1.g = some g → us[j].1.g = some g → i = j
/-- A list of lists of words, none of them written on. -/
structure UOk (w : World) (base : Nat) (v : Value) (us : UL) : Prop where
  own : w.ownsRow base 22 1 v us.length (valsOf us)
  rows : ∀ u ∈ us, URow w u.1 u.2
  dist : DistU us
  big : ∀ u ∈ us, ∀ g, u.1.g = some g → base ≤ g
def USet (v : Value) (us : UL) : Nat → Prop := fun k => v.ownBlock = some k ∨ ∃ u ∈ us, u.1.g = some k
theorem UOk.only {w w' : World} {base : Nat} {v : Value} {us : UL} {S : Nat → Prop} (h : UOk w base v us) (ho : Only S w w') (hn : ∀ k, USet v us k → ¬ S k) : UOk w' base v us :=
  ⟨own_only h.own ho (fun k hk => hn k (Or.inl hk)), fun u hu => (h.rows u hu).only ho (fun g hg => hn g (Or.inr ⟨u, hu, hg⟩)), h.dist, h.big⟩
theorem UOk.lt {w : World} {base : Nat} {v : Value} {us : UL} (h : UOk w base v us) : ∀ k, USet v us k → k < w.heap.size := by
  intro k hk
  rcases hk with hk | ⟨u, hu, hk⟩
  · exact (h.own.lt k hk).2
  · exact (h.rows u hu).lt k hk
theorem UOk.below {w w' : World} {base : Nat} {v : Value} {us : UL} (h : UOk w base v us) (hb : Below w.heap.size w w') : UOk w' base v us := h.only (S := fun _ => False) (Only.of_below hb) (fun _ _ h => h)
theorem BookOk.below {w w' : World} {G base : Nat} {v : Value} {xs : List Value} {s : Int} {es : List Rw} {a : Nat} {M : Nat → Nat → Value} (h : BookOk w G base v xs s es a M) (hb : Below w.heap.size w w') : BookOk w' G base v xs s es a M := h.only (S := fun _ => False) (Only.of_below hb) (fun _ _ h => h)
theorem UOk.blk {w : World} {base : Nat} {v : Value} {us : UL} (h : UOk w base v us) : (∀ k, v.ownBlock = some k → ∃ cur, w.heap[k]? = some (.cells cur 22 (0, 0))) ∧ ∀ u ∈ us, ∀ g, u.1.g = some g → ∃ cur, w.heap[g]? = some (.cells cur 9 (0, 0)) :=
  ⟨own_blk h.own, fun u hu => (h.rows u hu).blk⟩
/-- two rows more, in the same place or a new one. -/
theorem UOk.two {w w' : World} {base : Nat} {v v' : Value} {us : UL} {S : Nat → Prop} (h : UOk w base v us) (ho : Only S w w') (hn : ∀ u ∈ us, ∀ g, u.1.g = some g → ¬ S g) (a b : Rw × List (List UInt8)) (hown : w'.ownsRow base 22 1 v' (us.length + 2) (valsOf us ++ [a.1.v a.1.n, b.1.v b.1.n]))
    (ha : URow w' a.1 a.2) (hb : URow w' b.1 b.2) (hab : ∀ g, a.1.g = some g → b.1.g ≠ some g) (ha2 : ∀ g, a.1.g = some g → base ≤ g ∧ ∀ u ∈ us, u.1.g ≠ some g) (hb2 : ∀ g, b.1.g = some g → base ≤ g ∧ ∀ u ∈ us, u.1.g ≠ some g) : UOk w' base v' (us ++ [a, b]) := by
  refine ⟨?_, ?_, ?_, ?_⟩
  · have e : valsOf (us ++ [a, b]) = valsOf us ++ [a.1.v a.1.n, b.1.v b.1.n] := by unfold valsOf; simp
    rw [e, show (us ++ [a, b]).length = us.length + 2 by simp]
    exact hown
  · intro u hu
    rcases List.mem_append.1 hu with hu | hu
    · exact (h.rows u hu).only ho (hn u hu)
    · simp at hu
      rcases hu with rfl | rfl
      · exact ha
      · exact hb
  · have key : ∀ k (hk : k < (us ++ [a, b]).length), (∃ h' : k < us.length, (us ++ [a, b])[k] = us[k]) ∨ (k = us.length ∧ (us ++ [a, b])[k] = a) ∨ (k = us.length + 1 ∧ (us ++ [a, b])[k] = b) := by
      intro k hk
      by_cases h' : k < us.length
      · exact .inl ⟨h', List.getElem_append_left h'⟩
      · have h2 : k < us.length + 2 := by simpa using hk
        by_cases h3 : k = us.length
        · subst h3; exact .inr (.inl ⟨rfl, by simp⟩)
        · have : k = us.length + 1 := by omega
          subst this
          exact .inr (.inr ⟨rfl, by simp⟩)
    intro i j hi hj g h1 h2
    rcases key i hi with ⟨hi', e1⟩ | ⟨rfl, e1⟩ | ⟨rfl, e1⟩ <;> rcases key j hj with ⟨hj', e2⟩ | ⟨rfl, e2⟩ | ⟨rfl, e2⟩ <;> rw [e1] at h1 <;> rw [e2] at h2
    · exact h.dist i j hi' hj' g h1 h2
    · exact absurd h1 ((ha2 g h2).2 _ (List.getElem_mem hi'))
    · exact absurd h1 ((hb2 g h2).2 _ (List.getElem_mem hi'))
    · exact absurd h2 ((ha2 g h1).2 _ (List.getElem_mem hj'))
    · exact absurd h2 (hab g h1)
    · exact absurd h2 ((hb2 g h1).2 _ (List.getElem_mem hj'))
    · exact absurd h1 (hab g h2)
  · intro u hu g hg
    rcases List.mem_append.1 hu with hu | hu
    · exact h.big u hu g hg
    · simp at hu
      rcases hu with rfl | rfl
      · exact (ha2 g hg).1
      · exact (hb2 g hg).1
end Go.Proofs.YtgikkibiinanjaaDoor
