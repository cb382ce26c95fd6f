/- The walk of pattern.used. -/
import Derived.Test.YtgnifglolbfamaaPlF
set_option linter.unusedVariables false
set_option linter.unusedSimpArgs false
namespace Go.Proofs.Ytgnifglolbfamaa
open Go.RowKit Go.Proofs.YtgnifglolbfamaaW.PrintWords

theorem vix_bound : ∀ (cs : List Cp) (s : List UInt8) (i : Int), vix cs s = some i → 0 ≤ i ∧ i < cs.length
  | [], s, i, h => by simp [vix] at h
  | c :: cs, s, i, h => by
    simp only [vix] at h
    split at h
    · injection h with h; subst h; simp
    · cases hv : vix cs s with
      | none => rw [hv] at h; simp at h
      | some j =>
        rw [hv] at h
        have := vix_bound cs s j hv
        simp at h
        subst h
        simp; omega
def manyAt (cs : List Cp) (i : Nat) : Bool := manyB (cs.getD i zCp).f0 (cs.getD i zCp).f1
def usedErr (cs : List Cp) (r : Rf) : Int :=
  match vix cs r.f0.data.toList with
  | none => 80
  | some i => if r.f1 < 1 ∨ r.f1 > 7 ∨ manyAt cs i.toNat = (r.f1 == 1) then 81 else 0

theorem PatAt.below {w w' : World} {gp : Nat} {A : Option Addr} {c : Nat} {cs : List Cp} (h : PatAt w gp A c cs) (hb : Below w.heap.size w w') : PatAt w' gp A c cs := by
  obtain ⟨h1, h2, h3, gm, v2, h4, h5, base, h6⟩ := h
  exact ⟨h1, h2, Kd.C_below h3 hb, gm, v2, blk_below h4 hb, h5.below hb, base, Kd.R_below h6 hb⟩

set_option maxHeartbeats 2000000 in
set_option maxRecDepth 100000 in
theorem used_any (cs : List Cp) (gp : Nat) (A : Option Addr) (c : Nat) (r : Rf) (w : World) (hp : PatAt w gp A c cs) (hr : r.f0.size ≤ maxLen) :
    Calls Try.prog 57 #[.pointer (some ⟨gp, 0, none⟩), .agg #[.string r.f0, .int .i64 r.f1, .string r.f2, .int .i64 r.f3]] w fun e w' => e = .returned (.int .i64 (usedErr cs r)) ∧ Below w.heap.size w w' := by
  have hp1 := hp.below (below_new w (.cells #[.string r.f0, .int .i64 r.f1, .string r.f2, .int .i64 r.f3] 42))
  have hbx := blk_new w (.cells #[.string r.f0, .int .i64 r.f1, .string r.f2, .int .i64 r.f3] 42)
  have hB0 := below_new w (.cells #[.string r.f0, .int .i64 r.f1, .string r.f2, .int .i64 r.f3] 42)
  obtain ⟨res, hres⟩ : ∃ res, res = usedErr cs r := ⟨_, rfl⟩
  rw [← hres]
  unfold usedErr at hres
  have HRES := Lib.hid hres
  clear hres hp
  go_enter Try.func57, Try.ntmps57
  go_wp2_with fail
  generalize w.alloc (.cells #[.string r.f0, .int .i64 r.f1, .string r.f2, .int .i64 r.f3] 42) = W1 at *
  obtain ⟨h1, h2, h3, gm, v2, h4, h5, base, h6⟩ := hp1
  have hlk := fun nq => (h5.below (pw_below_drewN (Below.refl _ _) nq)).ok r.f0 hr
  have HC := Lib.hid h3
  have HV2 := Lib.hid h6
  have HM := Lib.hid h5
  have p0 := (blk_cell h4 0).trans rfl
  have p1 := (blk_cell h4 1).trans rfl
  have x0 := (blk_cell hbx 0).trans rfl
  have x1 := (blk_cell hbx 1).trans rfl
  have HN := Lib.hid h2
  clear h2 h3 h5 h6
  obtain ⟨q, hq⟩ : ∃ q, q = vix cs r.f0.data.toList := ⟨_, rfl⟩
  simp only [← hq] at hlk
  have HQ := Lib.hid hq
  clear hq
  cases q with
  | none =>
    simp only [Option.getD_none, Option.isSome_none] at hlk
    go_quiet (fail)
    go_wp2_with fail
    go_ret
    exact ⟨by rw [HRES.out, ← HQ.out]; rfl, pw_below_drewN hB0 _⟩
  | some i =>
    obtain ⟨hi0, hi1⟩ := vix_bound _ _ _ HQ.out.symm
    simp only [Option.getD_some, Option.isSome_some] at hlk
    go_quiet (fail)
    go_wp2_with fail
    clear hlk p0 p1 x0 x1
    have hB2 : Below W1.heap.size W1 (W1.drewN nq) := pw_below_drewN (Below.refl _ _) nq
    generalize W1.drewN nq = W2 at *
    have hB := below_step hB0 hB2
    have h4' := blk_below h4 hB2
    have hbx' := blk_below hbx hB2
    obtain ⟨j, rfl⟩ : ∃ j : Nat, i = j := ⟨i.toNat, by omega⟩
    have hj : j < cs.length := by omega
    obtain ⟨ad, rfl, c0, c1, c2, c3⟩ := atCpN (Kd.C_below HC.out hB2) j hj hj
    have HMA := Lib.hid (show manyAt cs j = manyB cs[j].f0 cs[j].f1 by simp [manyAt, List.getD_eq_getElem?_getD, List.getElem?_eq_getElem hj])
    have HR2 := Lib.hid (show res = if r.f1 < 1 ∨ r.f1 > 7 ∨ manyB cs[j].f0 cs[j].f1 = (r.f1 == 1) then 81 else 0 by
      rw [HRES.out, ← HQ.out]; simp only [Int.toNat_natCast, HMA.out])
    generalize cs[j] = y at *
    clear HMA
    have p0 := (blk_cell h4' 0).trans rfl
    have x1 := (blk_cell hbx' 1).trans rfl
    have i0 : (0 : Int) ≤ (j : Int) := by omega
    have i1 : (j : Int) < cs.length := by omega
    by_cases g1 : r.f1 < 1
    · have d1 : decide (r.f1 < 1) = true := by simpa using g1
      have HE := Lib.hid (show res = 81 by rw [HR2.out, if_pos (Or.inl g1)])
      clear g1
      go_wp2_with fail
      go_quiet (fail)
      go_wp2_with fail
      go_ret
      exact ⟨by rw [HE.out]; rfl, pw_below_drewN hB _⟩
    · have d1 : decide (r.f1 < 1) = false := by simpa using g1
      by_cases g2 : r.f1 > 7
      · have d2 : decide (r.f1 > 7) = true := by simpa using g2
        have HE := Lib.hid (show res = 81 by rw [HR2.out, if_pos (Or.inr (Or.inl g2))])
        clear g1 g2
        go_wp2_with fail
        go_quiet (fail)
        go_wp2_with fail
        go_ret
        exact ⟨by rw [HE.out]; rfl, pw_below_drewN hB _⟩
      · have d2 : decide (r.f1 > 7) = false := by simpa using g2
        have HE := Lib.hid (show res = if manyB y.f0 y.f1 = (r.f1 == 1) then 81 else 0 by rw [HR2.out]; simp [g1, g2])
        clear g1 g2 HR2
        obtain ⟨mb, hmb⟩ : ∃ mb, mb = manyB y.f0 y.f1 := ⟨_, rfl⟩
        rw [← hmb] at HE
        have hmc := fun W => many_any y.f0 y.f1 y.f2 y.f3 W
        rw [← hmb] at hmc
        have HMC := Lib.hid hmc
        obtain ⟨eb, heb⟩ : ∃ eb, (r.f1 == 1) = eb := ⟨_, rfl⟩
        rw [heb] at HE
        clear hmc hmb
        have HKeep := Lib.hid (show ∀ w', Below W2.heap.size W2 w' → w'.cell? ⟨gp, 0, none⟩ = some (.slice (some ad) cs.length c) ∧ w'.cell? ⟨w.heap.size, 1, none⟩ = some (.int .i64 r.f1) ∧ w'.cell? (ad.add (j * 4)) = some (.bool y.f0) ∧ w'.cell? ⟨(ad.add (j * 4)).block, (ad.add (j * 4)).off + 1, none⟩ = some (.bool y.f1) ∧ w'.cell? ⟨(ad.add (j * 4)).block, (ad.add (j * 4)).off + 2, none⟩ = some (.string y.f2) ∧ w'.cell? ⟨(ad.add (j * 4)).block, (ad.add (j * 4)).off + 3, none⟩ = some (.string y.f3) from fun w' hb => ⟨pw_cell_below hb p0, pw_cell_below hb x1, pw_cell_below hb c0, pw_cell_below hb c1, pw_cell_below hb c2, pw_cell_below hb c3⟩)
        cases mb <;> cases eb
        all_goals
          go_wp2_with fail
          go_region_held3 (fun w' => w'.cell? ⟨gp, 0, none⟩ = some (.slice (some ad) cs.length c) ∧ w'.cell? ⟨w.heap.size, 1, none⟩ = some (.int .i64 r.f1) ∧ w'.cell? (ad.add (j * 4)) = some (.bool y.f0) ∧ w'.cell? ⟨(ad.add (j * 4)).block, (ad.add (j * 4)).off + 1, none⟩ = some (.bool y.f1) ∧ w'.cell? ⟨(ad.add (j * 4)).block, (ad.add (j * 4)).off + 2, none⟩ = some (.string y.f2) ∧ w'.cell? ⟨(ad.add (j * 4)).block, (ad.add (j * 4)).off + 3, none⟩ = some (.string y.f3)) (first | exact HKeep.out _ (Below.refl _ _) | exact HKeep.out _ (below_drew (Below.refl _ _)) | exact HKeep.out _ (by assumption) | exact HKeep.out _ (below_drew (by assumption))) ((go_at_call 69; refine (HMC.out _).mono ?_; rintro e w5 ⟨rfl, hb5⟩; have hbk : Below W2.heap.size W2 w5 := (by first | exact below_step (below_drew (Below.refl _ _)) hb5 | exact hb5)))
          go_wp2_with fail
          go_ret
          exact ⟨by rw [HE.out]; rfl, below_step hB hbk⟩
end Go.Proofs.Ytgnifglolbfamaa
