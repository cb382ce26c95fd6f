/- A Book as a whole: fill, grow, whole in one word. -/
import Derived.Test.YtgikkibiinanjaaDoorFrD
set_option linter.unusedVariables false
set_option linter.unusedSimpArgs false
namespace Go.Proofs.YtgikkibiinanjaaDoor
open Go.RowKit

/-- The lists hold their marks, those up to a behind their ends too. -/
def FullTo (es : List Rw) (a : Nat) (M : Nat → Nat → Value) : Prop := ∀ k (h : k < es.length), ∀ g, es[k].g = some g → ∀ j, (j < es[k].n ∨ (k < a ∧ j < es[k].n + rm es[k])) → M g j = mark k
structure BookOk (w : World) (G base : Nat) (v : Value) (xs : List Value) (s : Int) (es : List Rw) (a : Nat) (M : Nat → Nat → Value) : Prop where
  at_ : BookAt w G base v xs s ((2 * a : Nat) : Int)
  vals : BookVals xs es a
  le : a ≤ es.length
  in_ : AllIn w es M
  dist : Dist es
  full : FullTo es a M
  own : ∀ r ∈ es, ∀ g, r.g = some g → base ≤ g
  big : base ≤ G
  s0 : 1000 * (es.length : Int) ≤ s
  few : es.length ≤ 33554

theorem rm_le {r : Rw} (h : r.n ≤ r.cap) : r.n + rm r ≤ r.cap := by unfold rm; omega
theorem BookOk.only {w w' : World} {G base : Nat} {v : Value} {xs : List Value} {s : Int} {es : List Rw} {a : Nat} {M : Nat → Nat → Value} {S : Nat → Prop} (h : BookOk w G base v xs s es a M) (ho : Only S w w') (hn : ∀ k, BookS G v es k → ¬ S k) : BookOk w' G base v xs s es a M :=
  ⟨⟨ho.blk h.at_.1 (hn G (Or.inl rfl)), own_only h.at_.2 ho (fun k hk => hn k (Or.inr (Or.inl hk)))⟩, h.vals, h.le, h.in_.only ho (fun r hr g hg => hn g (Or.inr (Or.inr ⟨r, hr, hg⟩))), h.dist, h.full, h.own, h.big, h.s0, h.few⟩
theorem BookOk.S_lt {w : World} {G base : Nat} {v : Value} {xs : List Value} {s : Int} {es : List Rw} {a : Nat} {M : Nat → Nat → Value} (h : BookOk w G base v xs s es a M) : ∀ k, BookS G v es k → base ≤ k ∧ k < w.heap.size := by
  intro k hk
  rcases hk with rfl | hk | ⟨r, hr, hk⟩
  · exact ⟨h.big, blk_lt' h.at_.1⟩
  · exact h.at_.2.lt k hk
  · exact ⟨h.own r hr k hk, (h.in_ r hr).lt k hk⟩
theorem Mput_ne {M : Nat → Nat → Value} {g g' : Nat} {f : Nat → Value} (h : g' ≠ g) : Mput M g f g' = M g' := by unfold Mput; rw [if_neg h]
theorem Mput_eq {M : Nat → Nat → Value} {g : Nat} {f : Nat → Value} : Mput M g f g = f := by unfold Mput; rw [if_pos rfl]
theorem AllIn.mput {w : World} {es : List Rw} {M : Nat → Nat → Value} {g : Nat} {f : Nat → Value} (h : AllIn w es M) (hn : ∀ r ∈ es, r.g ≠ some g) : AllIn w es (Mput M g f) := by
  intro r hr
  have h1 := h r hr
  rcases hg : r.g with _ | k
  · exact ⟨h1.1, by have h2 := h1.2; rw [hg] at h2 ⊢; exact h2⟩
  · rw [cont_some hg] at h1 ⊢
    rw [Mput_ne (fun e => hn r hr (by rw [hg, e]))]
    exact h1
theorem get_snoc {es : List Rw} {r : Rw} {k : Nat} (h : k < (es ++ [r]).length) : (∃ h' : k < es.length, (es ++ [r])[k] = es[k]) ∨ (k = es.length ∧ (es ++ [r])[k] = r) := by
  by_cases h' : k < es.length
  · exact .inl ⟨h', List.getElem_append_left h'⟩
  · right
    have : k = es.length := by simp at h; omega
    subst this
    exact ⟨rfl, by simp⟩

theorem fillB {w : World} {G base : Nat} {v : Value} {xs : List Value} {s : Int} {es : List Rw} {a : Nat} {M : Nat → Nat → Value} (h : BookOk w G base v xs s es a M) (hB : base ≤ w.heap.size) (ht : Tab base w) (r : Rw) (f : Nat → Value) (hr : r.In w f)
    (hrb : ∀ g, r.g = some g → base ≤ g) (hrn : ∀ g, r.g = some g → ∀ r' ∈ es, r'.g ≠ some g) (hs1 : s + 1000 + 40 * (r.n : Int) ≤ 9000000000000000000) :
    Calls Tryd.prog 9 #[.pointer (some ⟨G, 0, none⟩), r.v r.n] w fun e w' => e = .returned (.tuple #[]) ∧ ∃ v' xs' es' M' f', BookOk w' G base v' xs' (s + 1000 + 40 * (r.n : Int)) es' a M' ∧ (es' = es ∨ es' = es ++ [r]) ∧
      Only (fun k => k = G ∨ v.ownBlock = some k ∨ r.g = some k) w w' ∧ (v'.ownBlock = v.ownBlock ∨ ∃ k, v'.ownBlock = some k ∧ w.heap.size ≤ k) ∧ r.In w' f' := by
  have hxl := h.vals.1
  have hfew := h.few
  have hs0 := h.s0
  have hale := h.le
  refine (fill_any base G v xs s ((2 * a : Nat) : Int) r f w hB ht h.at_ hr (by omega) (by omega) hs1).mono ?_
  rintro e w' ⟨rfl, f', v', xs', hOn, hbk, hIn, hf, hif⟩
  have hdv : xs.length / 2 = es.length := by omega
  rw [hdv] at hf
  have hall : AllIn w' es M := h.in_.only hOn (fun r' hr' g hg hS => by
    obtain ⟨cur, hc⟩ := (h.in_ r' hr').blk g hg
    rcases hS with rfl | hS | hS
    · exact ne_type hc h.at_.1 (by decide) rfl
    · obtain ⟨cur', hc'⟩ := own_blk h.at_.2 g hS
      exact ne_type hc hc' (by decide) rfl
    · exact hrn g hS r' hr' hg)
  split at hif
  · rename_i hle
    obtain ⟨rfl, hat⟩ := hif
    have hM : ∃ M', AllIn w' (es ++ [r]) M' ∧ (∀ k (hk : k < es.length) g, es[k].g = some g → M' g = M g) ∧ (∀ g, r.g = some g → M' g = f') := by
      rcases hg : r.g with _ | g
      · refine ⟨M, fun r' hr' => ?_, fun _ _ _ _ => rfl, fun g h => by cases h⟩
        rcases List.mem_append.1 hr' with hr' | hr'
        · exact hall r' hr'
        · obtain rfl : r' = r := by simpa using hr'
          exact ⟨hIn.1, by have h2 := hIn.2; rw [hg] at h2 ⊢; exact h2⟩
      · refine ⟨Mput M g f', fun r' hr' => ?_, fun k hk g' hg' => Mput_ne (fun e => hrn g hg es[k] (mem_get hk) (by rw [hg', e])), fun g' hg' => by cases hg'; exact Mput_eq⟩
        rcases List.mem_append.1 hr' with hr' | hr'
        · exact hall.mput (hrn g hg) r' hr'
        · obtain rfl : r' = r := by simpa using hr'
          rw [cont_some hg, Mput_eq]
          exact hIn
    obtain ⟨M', hA', hM1, hM2⟩ := hM
    refine ⟨rfl, v', _, es ++ [r], M', f', ⟨hbk, ⟨by simp [hxl]; omega, fun k hk => ?_⟩, by simp; omega, hA', ?_, ?_, ?_, h.big, by simp; omega, by simp; omega⟩, Or.inr rfl, hOn, hat, hIn⟩
    · rcases get_snoc hk with ⟨hk', e⟩ | ⟨rfl, e⟩
      · rw [e]
        obtain ⟨h1, h2⟩ := h.vals.2 k hk'
        rw [List.getElem?_append_left (by omega), List.getElem?_append_left (by omega)]
        exact ⟨h1, h2⟩
      · rw [e, List.getElem?_append_right (by omega), List.getElem?_append_right (by omega), show 2 * es.length - xs.length = 0 by omega, show 2 * es.length + 1 - xs.length = 1 by omega, if_neg (by omega)]
        exact ⟨rfl, rfl⟩
    · intro i j hi hj g h1 h2
      rcases get_snoc hi with ⟨hi', e1⟩ | ⟨rfl, e1⟩ <;> rcases get_snoc hj with ⟨hj', e2⟩ | ⟨rfl, e2⟩
      · rw [e1] at h1; rw [e2] at h2; exact h.dist i j hi' hj' g h1 h2
      · rw [e1] at h1; rw [e2] at h2; exact absurd h1 (hrn g h2 _ (mem_get hi'))
      · rw [e1] at h1; rw [e2] at h2; exact absurd h2 (hrn g h1 _ (mem_get hj'))
      · rfl
    · intro k hk g hg j hj
      rcases get_snoc hk with ⟨hk', e⟩ | ⟨rfl, e⟩
      · rw [e] at hg hj
        rw [hM1 k hk' g hg]
        exact h.full k hk' g hg j hj
      · rw [e] at hg hj
        rw [hM2 g hg]
        exact hf j (by omega)
    · intro r' hr' g hg
      rcases List.mem_append.1 hr' with hr' | hr'
      · exact h.own r' hr' g hg
      · obtain rfl : r' = r := by simpa using hr'
        exact hrb g hg
  · obtain ⟨rfl, rfl⟩ := hif
    exact ⟨rfl, v', xs', es, M, f', ⟨hbk, h.vals, h.le, hall, h.dist, h.full, h.own, h.big, by omega, h.few⟩, Or.inl rfl, hOn, Or.inl rfl, hIn⟩

theorem growB {w : World} {G base : Nat} {v : Value} {xs : List Value} {s : Int} {es : List Rw} {a : Nat} {M : Nat → Nat → Value} (h : BookOk w G base v xs s es a M) (hB : base ≤ w.heap.size) (ht : Tab base w) :
    Calls Tryd.prog 10 #[.pointer (some ⟨G, 0, none⟩)] w fun e w' => e = .returned (.tuple #[]) ∧ ∃ xs' M', BookOk w' G base v xs' s es es.length M' ∧ Only (BookS G v es) w w' := by
  refine (grow_any base G v xs s es a M w hB ht h.big h.at_ h.vals h.le h.in_ h.dist h.own (by have := h.few; omega)).mono ?_
  rintro e w' ⟨rfl, xs', M', hOn, hbk, hv, hin, hM1, hM2⟩
  refine ⟨rfl, xs', M', ⟨hbk, hv, Nat.le_refl _, hin, h.dist, fun k hk g hg j hj => ?_, h.own, h.big, h.s0, h.few⟩, hOn⟩
  by_cases hka : k < a
  · rw [hM1 k hk (Or.inl hka) g hg]
    exact h.full k hk g hg j (by omega)
  · rw [hM2 k hk (by omega) hk g hg j]
    by_cases hc : es[k].n ≤ j ∧ j < es[k].n + rm es[k]
    · rw [if_pos hc]
    · rw [if_neg hc]
      exact h.full k hk g hg j (by omega)

theorem keepB {w : World} {G base : Nat} {v : Value} {xs : List Value} {s : Int} {es : List Rw} {M : Nat → Nat → Value} (h : BookOk w G base v xs s es es.length M) (hB : base ≤ w.heap.size) (ht : Tab base w) (r : Rw) (f : Nat → Value) (hr : r.In w f)
    (hrb : ∀ g, r.g = some g → base ≤ g) (hrn : ∀ g, r.g = some g → ∀ r' ∈ es, r'.g ≠ some g) (hs1 : s + 1000 + 40 * (r.n : Int) ≤ 9000000000000000000) :
    Calls Tryd.prog 7 #[.pointer (some ⟨G, 0, none⟩), r.v r.n] w fun e w' => e = .returned (.tuple #[]) ∧ ∃ v' xs' es' M', BookOk w' G base v' xs' (s + 1000 + 40 * (r.n : Int)) es' es'.length M' ∧ (es' = es ∨ es' = es ++ [r]) ∧
      Only (fun k => BookS G v es k ∨ r.g = some k) w w' ∧ (v'.ownBlock = v.ownBlock ∨ ∃ k, v'.ownBlock = some k ∧ w.heap.size ≤ k) := by
  have HF := Lib.hid (fillB h hB ht r f hr hrb hrn hs1)
  have HH := Lib.hid h
  have HT := Lib.hid ht
  have HR := Lib.hid hr
  have HRB := Lib.hid hrb
  clear h hr hrn ht hrb
  generalize hrv : r.v r.n = rv at *
  go_enter Tryd.func7, Tryd.ntmps7
  go_wp2_with fail
  refine HF.out.mono ?_
  rintro e w1 ⟨rfl, v1, xs1, es1, M1, f1, hok, hes, hOn, hat, hIn1⟩
  have hbl : Below base w w1 := hOn.below hB (fun k hk hS => by
    rcases hS with rfl | hS | hS
    · have := HH.out.big; omega
    · have := (HH.out.at_.2.lt k hS).1; omega
    · have := HRB.out k hS; omega)
  have HG := Lib.hid (growB hok (by have := hbl.size; omega) (HT.out.on hbl))
  have HES := Lib.hid hes
  have HON := Lib.hid hOn
  have HAT := Lib.hid hat
  have HOK := Lib.hid hok
  clear hes hOn hat hIn1 hok
  go_wp2_with fail
  refine HG.out.mono ?_
  rintro e w2 ⟨rfl, xs2, M2, hok2, hOn2⟩
  have HOK2 := Lib.hid hok2
  have HON2 := Lib.hid hOn2
  clear hok2 hOn2
  go_wp2_with fail
  go_end0
  refine ⟨rfl, v1, xs2, es1, M2, HOK2.out, HES.out, ?_, HAT.out⟩
  refine Only.trans (HON.out.mono (fun k _ hk => ?_)) HON2.out (fun k hk hS => ?_)
  · rcases hk with hk | hk | hk
    · exact Or.inl (Or.inl hk)
    · exact Or.inl (Or.inr (Or.inl hk))
    · exact Or.inr hk
  · rcases hS with hS | hS | ⟨r', hr', hS⟩
    · exact Or.inl (Or.inl hS)
    · rcases HAT.out with h | ⟨k', h, hk'⟩
      · exact Or.inl (Or.inr (Or.inl (h ▸ hS)))
      · rw [h] at hS
        have := Option.some.inj hS
        omega
    · rcases HES.out with h | h
      · rw [h] at hr'
        exact Or.inl (Or.inr (Or.inr ⟨r', hr', hS⟩))
      · rw [h] at hr'
        rcases List.mem_append.1 hr' with hr' | hr'
        · exact Or.inl (Or.inr (Or.inr ⟨r', hr', hS⟩))
        · obtain rfl : r' = r := by simpa using hr'
          exact Or.inr hS
end Go.Proofs.YtgikkibiinanjaaDoor
