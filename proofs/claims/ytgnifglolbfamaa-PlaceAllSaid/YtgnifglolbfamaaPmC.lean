/- The plain law of the places: what an anchor without a fault says of the references. -/
import Derived.Test.YtgnifglolbfamaaPlZ
set_option linter.unusedVariables false
set_option linter.unusedSimpArgs false
namespace Go.Proofs.Ytgnifglolbfamaa
open Go.RowKit Go.Proofs.YtgnifglolbfamaaW.PrintWords

def valM (m : Int × Bool) : Int := 2 * m.1 + if m.2 then 1 else 0
theorem laterM_val (m o : Int × Bool) : valM m ≤ valM (laterM m o) ∧ valM o ≤ valM (laterM m o) ∧ (laterM m o = m ∨ laterM m o = o) := by
  obtain ⟨s, c⟩ := m
  obtain ⟨s', c'⟩ := o
  unfold laterM behindB valM
  rcases Int.lt_trichotomy s' s with h | h | h
  · have h1 : ¬ s' > s := by omega
    have h2 : (s' == s) = false := by rw [beq_eq_false_iff_ne]; omega
    simp [h1, h2]
    cases c <;> cases c' <;> simp <;> omega
  · subst h
    cases c <;> cases c' <;> simp <;> omega
  · have h1 : s' > s := by omega
    simp [h1]
    cases c <;> cases c' <;> simp <;> omega
theorem lastMom_val (cs : List Cp) (rs : List Rf) : (∀ r ∈ rs, valM (refMom cs r) ≤ valM (lastMom cs rs)) ∧ (valM (lastMom cs rs) = 0 ∨ ∃ r ∈ rs, valM (refMom cs r) = valM (lastMom cs rs)) := by
  have : ∀ (rs : List Rf) (m : Int × Bool), valM m ≤ valM (rs.foldl (fun m r => laterM m (refMom cs r)) m) ∧ (∀ r ∈ rs, valM (refMom cs r) ≤ valM (rs.foldl (fun m r => laterM m (refMom cs r)) m)) ∧ (rs.foldl (fun m r => laterM m (refMom cs r)) m = m ∨ ∃ r ∈ rs, valM (refMom cs r) = valM (rs.foldl (fun m r => laterM m (refMom cs r)) m)) := by
    intro rs
    induction rs with
    | nil => intro m; exact ⟨Int.le_refl _, by simp, Or.inl rfl⟩
    | cons r rs ih =>
      intro m
      obtain ⟨h1, h2, h3⟩ := ih (laterM m (refMom cs r))
      obtain ⟨g1, g2, g3⟩ := laterM_val m (refMom cs r)
      rw [List.foldl_cons]
      refine ⟨by omega, ?_, ?_⟩
      · intro x hx
        rcases List.mem_cons.1 hx with rfl | hx
        · omega
        · exact h2 x hx
      · rcases h3 with h3 | ⟨x, hx, h3⟩
        · rcases g3 with g3 | g3
          · left; rw [h3, g3]
          · right; exact ⟨r, List.mem_cons_self, by rw [h3, g3]⟩
        · right; exact ⟨x, List.mem_cons_of_mem _ hx, h3⟩
  obtain ⟨h1, h2, h3⟩ := this rs (0, false)
  refine ⟨h2, ?_⟩
  rcases h3 with h3 | h3
  · left; unfold lastMom; rw [h3]; rfl
  · right; exact h3

theorem used_parts {cs : List Cp} {r : Rf} (h : usedErr cs r = 0) : (vix cs r.f0.data.toList).isSome = true ∧ manyAt cs (cix cs r).toNat = !(r.f1 == 1) := by
  unfold usedErr at h
  cases hv : vix cs r.f0.data.toList with
  | none => rw [hv] at h; exact absurd (show (80 : Int) = 0 from h) (by decide)
  | some i =>
    rw [hv] at h
    simp only at h
    split at h
    · exact absurd h (by decide)
    · rename_i hn
      refine ⟨rfl, ?_⟩
      have hc : cix cs r = i := by unfold cix; rw [hv]; rfl
      rw [hc]
      cases hm : manyAt cs i.toNat <;> cases hb : (r.f1 == 1) <;> first | rfl | (exact absurd (Or.inr (Or.inr (by rw [hm, hb]))) hn)
theorem boundB_val {cs : List Cp} {r : Rf} (h : (vix cs r.f0.data.toList).isSome = true) (mom : Int) : boundB cs r mom = decide (valM (refMom cs r) ≤ mom) := by
  obtain ⟨i, hi⟩ := Option.isSome_iff_exists.1 h
  have hc : cix cs r = i := by unfold cix; rw [hi]; rfl
  unfold boundB valM refMom
  rw [hc, hi]
  rfl
theorem iter_not_neg {cs : List Cp} {r : Rf} (h : usedErr cs r = 0) (hi : itR r = true) : ngR cs r = false := by
  have h1 := (used_parts h).2
  have h2 : (r.f1 == 1) = false := by
    unfold itR iterAt at hi
    cases hb : (r.f1 == 1) with
    | false => rfl
    | true =>
      have : r.f1 = 1 := by simpa using hb
      rw [this] at hi
      exact absurd hi (by decide)
  rw [h2] at h1
  unfold manyAt manyB at h1
  unfold ngR negAt
  cases hf : (cs.getD (cix cs r).toNat zCp).f0 with
  | false => rfl
  | true => rw [hf] at h1; simp at h1

theorem anchor_used {cs : List Cp} {rs : List Rf} {k n : Int} (h : anchorOf cs rs = (k, n, 0)) : ∀ r ∈ rs, usedErr cs r = 0 := by
  unfold anchorOf at h
  split at h
  · rename_i r hr
    have h1 := List.find?_some hr
    injection h with _ h
    injection h with _ h
    rw [h] at h1
    exact absurd h1 (by decide)
  · rename_i hn
    intro r hr
    have := List.find?_eq_none.1 hn r hr
    simpa using this

structure Law1 (cs : List Cp) (rs : List Rf) (k n : Nat) : Prop where
  all : ∀ r ∈ rs, boundB cs r (2 * n + if k = 1 then 0 else 1) = true ∧ itR r = false ∧ ngR cs r = false
  early : (0 : Int) < 2 * n + (if k = 1 then 0 else 1) → ∃ r ∈ rs, boundB cs r ((2 * n + if k = 1 then 0 else 1) - 1) = false
  lt : n < stg cs
  fin : k = 5 ↔ (2 * n + (if k = 1 then 0 else 1) : Int) = 2 * stg cs - 1
structure Law2 (cs : List Cp) (rs : List Rf) (n : Nat) : Prop where
  all : ∀ r ∈ rs, ngR cs r = false ∧ (itR r = true → stA cs (cix cs r).toNat = n) ∧ (itR r = false → stA cs (cix cs r).toNat ≤ n ∧ (stA cs (cix cs r).toNat = n → r.f1 = 4))
  some_ : ∃ r ∈ rs, itR r = true
  lt : n < stg cs
structure Law4 (cs : List Cp) (rs : List Rf) (n : Nat) : Prop where
  all : ∀ r ∈ rs, itR r = false ∧ (cix cs r ≠ n → cix cs r ≤ n ∧ ngR cs r = false)
  some_ : ∃ r ∈ rs, cix cs r = n
  pos : 0 < n
  lt : n < cs.length - 1
  neg : negB cs n = true

theorem anchor_law {cs : List Cp} {rs : List Rf} {k n : Int} (h : anchorOf cs rs = (k, n, 0)) (h0 : patErr cs = 0) :
    ∃ k' n' : Nat, k = k' ∧ n = n' ∧ (∀ r ∈ rs, (vix cs r.f0.data.toList).isSome = true) ∧ (((k' = 1 ∨ k' = 3 ∨ k' = 5) ∧ Law1 cs rs k' n') ∨ (k' = 2 ∧ Law2 cs rs n') ∨ (k' = 4 ∧ Law4 cs rs n')) := by
  obtain ⟨p0, p1, p2, p3, p4⟩ := patErr_parts h0
  have hu := anchor_used h
  have hsome : ∀ r ∈ rs, (vix cs r.f0.data.toList).isSome = true := fun r hr => (used_parts (hu r hr)).1
  unfold anchorOf at h
  split at h
  · rename_i r hr
    have h1 := List.find?_some hr
    injection h with _ h
    injection h with _ h
    rw [h] at h1
    exact absurd h1 (by decide)
  · split at h
    · rename_i h1
      injection h with _ h
      injection h with _ h
      exact absurd h h1
    · rename_i hne
      have hz : (mixOf cs rs).2.2 = 0 := Classical.not_not.1 hne
      obtain ⟨hm, hbad⟩ := mixOf_ok cs rs hz
      generalize hq1 : (mixOf cs rs).1 = q1 at *
      generalize hq2 : (mixOf cs rs).2.1 = q2 at *
      split at h
      · rename_i h2
        injection h with ha h
        injection h with hb h
        have hex : ∃ r ∈ rs, itR r = true ∧ cix cs r = q1 := by
          rcases hm.some1 with e | e
          · simp only at e; omega
          · exact e
        have hlt : q1 < cs.length := by
          obtain ⟨r, _, _, e⟩ := hex
          have := cix_lt cs p0 r
          omega
        refine ⟨2, stA cs q1.toNat, ha.symm, hb.symm, hsome, Or.inr (Or.inl ⟨rfl, ?_, ?_, stA_lt cs p4 _ (by omega)⟩)⟩
        · intro r hr
          have hb1 := hbad r hr
          have hc := cix_nonneg cs r
          have hcl := cix_lt cs p0 r
          cases hi : itR r with
          | true =>
            refine ⟨iter_not_neg (hu r hr) hi, fun _ => ?_, fun h => absurd h (by decide)⟩
            rw [hm.it r hr hi]
          | false =>
            unfold mbad badB at hb1
            have e1 : iterAt r.f1 = itR r := rfl
            have e2 : negAt cs (cix cs r).toNat = ngR cs r := rfl
            rw [e1, e2, hi] at hb1
            have h3 : decide (q1 ≥ 0) = true := by simpa using h2
            have h4 : decide (q1 < 0) = false := by simp; omega
            simp only [h3, h4, Bool.not_false, Bool.true_and, Bool.false_and, Bool.or_false, Bool.or_eq_false_iff, decide_eq_false_iff_not] at hb1
            obtain ⟨⟨hn, hgt⟩, heq⟩ := hb1
            refine ⟨hn, fun h => absurd h (by decide), fun _ => ?_⟩
            rcases Int.lt_or_eq_of_le (show cix cs r ≤ q1 by omega) with hl | hl
            · have hpos := stA_pos cs (cix cs r).toNat q1.toNat (by omega) (by omega) hn
              exact ⟨by omega, fun e => by omega⟩
            · refine ⟨by rw [hl]; exact Nat.le_refl _, fun _ => ?_⟩
              rw [hl] at heq
              simpa using heq
        · obtain ⟨r, hr, h1, _⟩ := hex
          exact ⟨r, hr, h1⟩
      · rename_i h2
        have hnoit : ∀ r ∈ rs, itR r = false := by
          intro r hr
          cases hi : itR r with
          | false => rfl
          | true => have := hm.it r hr hi; have := cix_nonneg cs r; simp only at *; omega
        split at h
        · rename_i h3
          injection h with ha h
          injection h with hb h
          have hex : ∃ r ∈ rs, ngR cs r = true ∧ cix cs r = q2 := by
            rcases hm.some2 with e | e
            · simp only at e; omega
            · exact e
          obtain ⟨r0, hr0, hng0, he0⟩ := hex
          have hlt : q2 < cs.length := by have := cix_lt cs p0 r0; omega
          have hnb : negB cs q2.toNat = true := by rw [← he0]; exact hng0
          have hne0 : q2.toNat ≠ 0 := by intro e; rw [e, p3] at hnb; exact absurd hnb (by decide)
          have hnel : q2.toNat ≠ cs.length - 1 := by intro e; rw [e, p4] at hnb; exact absurd hnb (by decide)
          refine ⟨4, q2.toNat, ha.symm, by omega, hsome, Or.inr (Or.inr ⟨rfl, ?_, ⟨r0, hr0, by omega⟩, by omega, by omega, hnb⟩)⟩
          intro r hr
          refine ⟨hnoit r hr, fun hne2 => ?_⟩
          have hb1 := hbad r hr
          unfold mbad badB at hb1
          have e1 : iterAt r.f1 = itR r := rfl
          rw [e1, hnoit r hr] at hb1
          have h4 : decide (q1 ≥ 0) = false := by simp; omega
          have h5 : decide (q1 < 0) = true := by simp; omega
          have h6 : decide (q2 ≥ 0) = true := by simpa using h3
          simp only [h4, h5, h6, Bool.not_false, Bool.true_and, Bool.false_and, Bool.false_or, decide_eq_false_iff_not] at hb1
          refine ⟨by omega, ?_⟩
          cases hg : ngR cs r with
          | false => rfl
          | true => have := hm.ng r hr hg; simp only at this; omega
        · rename_i h3
          have hnong : ∀ r ∈ rs, ngR cs r = false := by
            intro r hr
            cases hg : ngR cs r with
            | false => rfl
            | true => have := hm.ng r hr hg; have := cix_nonneg cs r; simp only at *; omega
          obtain ⟨j, hj, he⟩ := lastMom_at cs p0 rs
          have hs := stA_lt cs p4 j hj
          obtain ⟨v1, v2⟩ := lastMom_val cs rs
          generalize hlm : lastMom cs rs = lm at *
          obtain ⟨s, c⟩ := lm
          simp only at he h
          have fin : ∀ k' : Nat, (k' = 1 ∨ k' = 3 ∨ k' = 5) → (if k' = 1 then c = false else c = true) → (k' = 5 → s = (stg cs : Int) - 1) → (k' = 3 → s ≠ (stg cs : Int) - 1) → Law1 cs rs k' (stA cs j) := by
            intro k' hk hc h5 h3'
            have hval : valM (s, c) = 2 * (stA cs j : Int) + if k' = 1 then 0 else 1 := by
              unfold valM
              rw [he]
              by_cases e : k' = 1
              · rw [if_pos e] at hc ⊢; rw [hc]; rfl
              · rw [if_neg e] at hc ⊢; rw [hc]; rfl
            rw [hval] at v1 v2
            refine ⟨fun r hr => ⟨?_, hnoit r hr, hnong r hr⟩, fun hpos => ?_, hs, ?_⟩
            · rw [boundB_val (hsome r hr)]
              exact decide_eq_true (v1 r hr)
            · rcases v2 with v2 | ⟨r, hr, v2⟩
              · omega
              · refine ⟨r, hr, ?_⟩
                rw [boundB_val (hsome r hr), v2]
                exact decide_eq_false (by omega)
            · rcases hk with rfl | rfl | rfl
              · constructor
                · intro h; exact absurd h (by decide)
                · intro h; simp at h; omega
              · constructor
                · intro h; exact absurd h (by decide)
                · intro h; have := h3' rfl; simp at h; omega
              · constructor
                · intro _; have := h5 rfl; simp; omega
                · intro _; rfl
          split at h
          · rename_i hc
            injection h with ha h
            injection h with hb h
            exact ⟨1, stA cs j, ha.symm, hb.symm.trans he, hsome, Or.inl ⟨Or.inl rfl, fin 1 (Or.inl rfl) (by simpa using hc) (fun h => absurd h (by decide)) (fun h => absurd h (by decide))⟩⟩
          · rename_i hc
            have hc : c = true := by cases c <;> simp at hc ⊢
            split at h
            · rename_i h5
              injection h with ha h
              injection h with hb h
              exact ⟨5, stA cs j, ha.symm, hb.symm.trans he, hsome, Or.inl ⟨Or.inr (Or.inr rfl), fin 5 (Or.inr (Or.inr rfl)) (by simpa using hc) (fun _ => h5) (fun h => absurd h (by decide))⟩⟩
            · rename_i h5
              injection h with ha h
              injection h with hb h
              exact ⟨3, stA cs j, ha.symm, hb.symm.trans he, hsome, Or.inl ⟨Or.inr (Or.inl rfl), fin 3 (Or.inr (Or.inl rfl)) (by simpa using hc) (fun h => absurd h (by decide)) (fun _ => h5)⟩⟩
end Go.Proofs.Ytgnifglolbfamaa
