/- Plain facts about the places: what the two passes over the references leave, and where an anchor lies. -/
import Derived.Test.YtgnifglolbfamaaPlT
set_option linter.unusedVariables false
set_option linter.unusedSimpArgs false
namespace Go.Proofs.Ytgnifglolbfamaa
open Go.RowKit Go.Proofs.YtgnifglolbfamaaW.PrintWords

theorem cix_nonneg (cs : List Cp) (r : Rf) : 0 ≤ cix cs r := by
  unfold cix
  cases h : vix cs r.f0.data.toList with
  | none => simp
  | some i => simpa using (vix_bound _ _ _ h).1
theorem cix_lt (cs : List Cp) (h0 : 0 < cs.length) (r : Rf) : cix cs r < cs.length := by
  unfold cix
  cases h : vix cs r.f0.data.toList with
  | none => simp; omega
  | some i => simpa using (vix_bound _ _ _ h).2

def itR (r : Rf) : Bool := iterAt r.f1
def ngR (cs : List Cp) (r : Rf) : Bool := negAt cs (cix cs r).toNat
structure MixF (cs : List Cp) (rs : List Rf) (p0 p : Int × Int) : Prop where
  it : ∀ r ∈ rs, itR r = true → cix cs r = p.1
  ng : ∀ r ∈ rs, ngR cs r = true → cix cs r = p.2
  some1 : p.1 = p0.1 ∨ ∃ r ∈ rs, itR r = true ∧ cix cs r = p.1
  some2 : p.2 = p0.2 ∨ ∃ r ∈ rs, ngR cs r = true ∧ cix cs r = p.2
  stay1 : 0 ≤ p0.1 → p.1 = p0.1
  stay2 : 0 ≤ p0.2 → p.2 = p0.2
theorem mixF (cs : List Cp) : ∀ (rs : List Rf) (p0 p : Int × Int), rs.foldlM (mstep cs) p0 = some p → MixF cs rs p0 p
  | [], p0, p, h => by
    simp at h
    subst h
    exact ⟨by simp, by simp, Or.inl rfl, Or.inl rfl, fun _ => rfl, fun _ => rfl⟩
  | r :: rs, p0, p, h => by
    rw [List.foldlM_cons] at h
    obtain ⟨p1, h1, h2⟩ := Option.bind_eq_some_iff.1 h
    obtain ⟨i1, i2, i3, i4, i5, i6⟩ := mixF cs rs p1 p h2
    have hc := cix_nonneg cs r
    unfold mstep mstepB at h1
    have e1 : iterAt r.f1 = itR r := rfl
    have e2 : negAt cs (cix cs r).toNat = ngR cs r := rfl
    rw [e1, e2] at h1
    split at h1
    · exact absurd h1 (by simp)
    · rename_i g1
      split at h1
      · exact absurd h1 (by simp)
      · rename_i g2
        injection h1 with h1
        subst h1
        simp only at i3 i4 i5 i6
        refine ⟨?_, ?_, ?_, ?_, ?_, ?_⟩
        · intro x hx hi
          rcases List.mem_cons.1 hx with rfl | hx
          · rw [hi] at i5; simp only [if_true] at i5; exact (i5 hc).symm
          · exact i1 x hx hi
        · intro x hx hi
          rcases List.mem_cons.1 hx with rfl | hx
          · rw [hi] at i6; simp only [if_true] at i6; exact (i6 hc).symm
          · exact i2 x hx hi
        · rcases i3 with i3 | ⟨x, hx, h⟩
          · cases hb : itR r with
            | true => right; exact ⟨r, List.mem_cons_self, hb, by rw [hb] at i3; simpa using i3.symm⟩
            | false => left; rw [hb] at i3; simpa using i3
          · right; exact ⟨x, List.mem_cons_of_mem _ hx, h⟩
        · rcases i4 with i4 | ⟨x, hx, h⟩
          · cases hb : ngR cs r with
            | true => right; exact ⟨r, List.mem_cons_self, hb, by rw [hb] at i4; simpa using i4.symm⟩
            | false => left; rw [hb] at i4; simpa using i4
          · right; exact ⟨x, List.mem_cons_of_mem _ hx, h⟩
        · intro h0
          cases hb : itR r with
          | true =>
            rw [hb] at g1 i5
            simp only [if_true] at i5
            simp at g1
            rw [i5 hc]
            exact (g1 h0).symm
          | false => rw [hb] at i5; simpa using i5 h0
        · intro h0
          cases hb : ngR cs r with
          | true =>
            rw [hb] at g2 i6
            simp only [if_true] at i6
            simp at g2
            rw [i6 hc]
            exact (g2 h0).symm
          | false => rw [hb] at i6; simpa using i6 h0
/-- What a mix without a fault is. -/
theorem mixOf_ok (cs : List Cp) (rs : List Rf) (h : (mixOf cs rs).2.2 = 0) : MixF cs rs (-1, -1) ((mixOf cs rs).1, (mixOf cs rs).2.1) ∧ ∀ r ∈ rs, mbad cs ((mixOf cs rs).1, (mixOf cs rs).2.1) r = false := by
  unfold mixOf at h ⊢
  cases hm : mix1 cs rs with
  | none => rw [hm] at h; exact absurd (show (83 : Int) = 0 from h) (by decide)
  | some p =>
    rw [hm] at h
    simp only at h ⊢
    split at h
    · exact absurd h (by decide)
    · rename_i hb
      rw [if_neg hb]
      refine ⟨mixF cs rs _ _ hm, fun r hr => ?_⟩
      rcases Bool.eq_false_or_eq_true (mbad cs p r) with h1 | h1
      · exact absurd (List.any_eq_true.2 ⟨r, hr, h1⟩) hb
      · exact h1

theorem lastMom_at (cs : List Cp) (h0 : 0 < cs.length) (rs : List Rf) : ∃ j : Nat, j < cs.length ∧ (lastMom cs rs).1 = (stA cs j : Int) := by
  have : ∀ (rs : List Rf) (m : Int × Bool), (∃ j : Nat, j < cs.length ∧ m.1 = (stA cs j : Int)) → ∃ j : Nat, j < cs.length ∧ (rs.foldl (fun m r => laterM m (refMom cs r)) m).1 = (stA cs j : Int) := by
    intro rs
    induction rs with
    | nil => intro m h; exact h
    | cons r rs ih =>
      intro m h
      refine ih _ ?_
      show ∃ j : Nat, j < cs.length ∧ (laterM m (refMom cs r)).1 = (stA cs j : Int)
      unfold laterM
      split
      · have h1 := cix_nonneg cs r
        have h2 := cix_lt cs h0 r
        exact ⟨(cix cs r).toNat, by omega, rfl⟩
      · exact h
  exact this rs (0, false) ⟨0, h0, by simp [stA, stg]⟩

theorem patErr_parts {cs : List Cp} (h : patErr cs = 0) : 0 < cs.length ∧ cs.length ≤ 8 ∧ dup cs = false ∧ negB cs 0 = false ∧ negB cs (cs.length - 1) = false := by
  unfold patErr at h
  split at h
  · exact absurd h (by decide)
  · split at h
    · exact absurd h (by decide)
    · rename_i h1 h2
      split at h
      · exact absurd h (by decide)
      · rename_i h3
        have h3 : (negB cs 0 || negB cs (cs.length - 1)) = false := by
          rcases Bool.eq_false_or_eq_true (negB cs 0 || negB cs (cs.length - 1)) with e | e
          · exact absurd e h3
          · exact e
        rw [Bool.or_eq_false_iff] at h3
        exact ⟨by omega, by omega, by simpa using h2, h3.1, h3.2⟩

def plI (k n : Nat) : Nat := if k = 5 then 0 else n
theorem anchor_valid {cs : List Cp} {rs : List Rf} {k n : Int} (h : anchorOf cs rs = (k, n, 0)) (h0 : patErr cs = 0) : ∃ k' n' : Nat, k = k' ∧ n = n' ∧ VP cs k' (plI k' n') ∧ (k' = 5 ∨ n' = plI k' n') := by
  obtain ⟨p0, p1, p2, p3, p4⟩ := patErr_parts h0
  unfold anchorOf at h
  split at h
  · rename_i r hr
    have h1 := List.find?_some hr
    injection h with _ h
    injection h with _ h
    rw [h] at h1
    exact absurd h1 (by decide)
  · split at h
    · rename_i h1
      injection h with _ h
      injection h with _ h
      exact absurd h h1
    · rename_i hne
      have hz : (mixOf cs rs).2.2 = 0 := Classical.not_not.1 hne
      obtain ⟨hm, _⟩ := mixOf_ok cs rs hz
      split at h
      · rename_i h2
        injection h with ha h
        injection h with hb h
        have hlt : (mixOf cs rs).1 < cs.length := by
          rcases hm.some1 with e | ⟨r, _, _, e⟩
          · simp only at e; omega
          · have := cix_lt cs p0 r; simp only at e; omega
        refine ⟨2, stA cs (mixOf cs rs).1.toNat, ha.symm, hb.symm, Or.inl ⟨Or.inr (Or.inl rfl), stA_lt cs p4 _ (by omega)⟩, Or.inr rfl⟩
      · split at h
        · rename_i h2 h3
          injection h with ha h
          injection h with hb h
          rcases hm.some2 with e | ⟨r, _, hr, e⟩
          · simp only at e; omega
          · have hlt := cix_lt cs p0 r
            simp only at e
            refine ⟨4, (mixOf cs rs).2.1.toNat, ha.symm, by omega, Or.inr (Or.inl ⟨rfl, by show (mixOf cs rs).2.1.toNat < _; omega, ?_⟩), Or.inr rfl⟩
            show negB cs (mixOf cs rs).2.1.toNat = true
            rw [← e]
            exact hr
        · obtain ⟨j, hj, he⟩ := lastMom_at cs p0 rs
          have hs := stA_lt cs p4 j hj
          split at h
          · injection h with ha h
            injection h with hb h
            exact ⟨1, stA cs j, ha.symm, hb.symm.trans he, Or.inl ⟨Or.inl rfl, hs⟩, Or.inr rfl⟩
          · split at h
            · injection h with ha h
              injection h with hb h
              exact ⟨5, stA cs j, ha.symm, hb.symm.trans he, Or.inr (Or.inr ⟨rfl, rfl⟩), Or.inl rfl⟩
            · injection h with ha h
              injection h with hb h
              exact ⟨3, stA cs j, ha.symm, hb.symm.trans he, Or.inl ⟨Or.inr (Or.inr rfl), hs⟩, Or.inr rfl⟩
end Go.Proofs.Ytgnifglolbfamaa
