import Derived.Test.YtcfgmkmllcfjjaaDoorZInM
set_option linter.unusedVariables false
set_option linter.unusedSimpArgs false
namespace Go.Proofs.YtcfgmkmllcfjjaaDoor
open Go.RowKit Go.Proofs.YtcfgmkmllcfjjaaDoorW.PrintWords Go.Proofs.YtcfgmkmllcfjjaaDoorW.PrintMore PImageForm
def smallM : Img := ⟨4, 2, 1, 3, [⟨⟨#[84]⟩, [⟨⟨#[120]⟩, 1⟩]⟩], [], [⟨1, ⟨⟨#[84]⟩, 3, [⟨1, -1, ⟨#[]⟩, false⟩]⟩, false⟩]⟩
def smallL : List Int := [114, 102, 114, 110, 8, 4, 2, 6, 2, 2, 84, 2, 2, 120, 1, 0, 2, 2, 0, 2, 84, 6, 2, 1, 1]
def smallB : List Int := [114, 102, 114, 110, 8, 4, 2, 6, 2, 2, 84, 2, 2, 120, 1, 0, 2, 2, 0, 2, 84, 6, 2, 1, 1, 55, 9, 3, 6]
theorem nameT : nameB ⟨#[84]⟩ = true := by decide +kernel
theorem namex : nameB ⟨#[120]⟩ = true := by decide +kernel
theorem puti_sm (n : Int) (z : Nat) (h : Lib.zigzag n = z) (hz : z < 128) : puti n = [(z : Int)] := by
  unfold puti
  rw [h, uvL_small hz]
theorem small_may : mayB smallM = true := by decide +kernel
theorem small_fault : faultN ⟨⟨#[84]⟩, 3, [⟨1, -1, ⟨#[]⟩, false⟩]⟩ = 0 := by decide +kernel
theorem small_bad : ¬ badL smallM.seens = true := by decide +kernel
theorem p0 : puti 0 = [0] := puti_sm 0 0 rfl (by decide)
theorem p1 : puti 1 = [2] := puti_sm 1 2 rfl (by decide)
theorem p2 : puti 2 = [4] := puti_sm 2 4 rfl (by decide)
theorem p3 : puti 3 = [6] := puti_sm 3 6 rfl (by decide)
theorem p4 : puti 4 = [8] := puti_sm 4 8 rfl (by decide)
theorem pm1 : puti (-1) = [1] := puti_sm (-1) 1 rfl (by decide)
theorem txt1 (b : UInt8) : txt ⟨#[b]⟩ = [2, (b.toNat : Int)] := by
  have h : txt ⟨#[b]⟩ = puti 1 ++ [(b.toNat : Int)] := rfl
  rw [h, p1]
  rfl
theorem small_laid : laid smallM = smallL := by
  have h1 : encNums smallM = [8, 4, 2, 6] := by
    show puti 4 ++ (puti 2 ++ (puti 1 ++ puti 3)) = _
    rw [p4, p2, p1, p3]
    rfl
  have h2 : encTypes smallM.types = [2, 2, 84, 2, 2, 120, 1] := by
    show puti 1 ++ ((txt ⟨#[84]⟩ ++ (puti 1 ++ ((txt ⟨#[120]⟩ ++ [IntKind.u8.wrap 1]) ++ []))) ++ []) = _
    rw [p1, txt1, txt1]
    rfl
  have h3 : encSaveds smallM.saved = [0] := by
    show puti 0 ++ [] = _
    rw [p0]
    rfl
  have h4 : encSeens smallM.seens = [2, 2, 0, 2, 84, 6, 2, 1, 1] := by
    have e1 : encB ⟨⟨#[84]⟩, 3, [⟨1, -1, ⟨#[]⟩, false⟩]⟩ = [2, 84, 6, 2, 1, 1] := by
      unfold encB
      rw [if_pos small_fault]
      show txt ⟨#[84]⟩ ++ (puti 3 ++ (puti 1 ++ ((1 :: puti (-1)) ++ []))) = _
      rw [txt1, p3, p1, pm1]
      rfl
    show puti 1 ++ ((puti (sub64 1 0) ++ ([0] ++ encB ⟨⟨#[84]⟩, 3, [⟨1, -1, ⟨#[]⟩, false⟩]⟩)) ++ []) = _
    rw [show sub64 1 0 = 1 by decide, e1, p1]
    rfl
  have e := laid_app smallM []
  rw [List.append_nil] at e
  rw [e, h1, h2, h3, h4]
  rfl
theorem small_saveE : saveE smallM = 0 := by
  unfold saveE
  rw [if_pos small_may, if_neg small_bad, small_laid, if_neg (by decide)]
theorem small_saveB : saveB smallM = smallB := by
  unfold saveB
  rw [if_pos small_saveE, small_laid]
  decide +kernel
theorem small_I : ImgI smallM := by
  refine ⟨by unfold I64; decide, by unfold I64; decide, by unfold I64; decide, by unfold I64; decide, (fun x hx => by cases hx), ?_, ?_, ?_, ?_, ?_, ?_⟩
  · intro x hx y hy
    rw [show smallM.seens = [⟨1, ⟨⟨#[84]⟩, 3, [⟨1, -1, ⟨#[]⟩, false⟩]⟩, false⟩] from rfl, List.mem_singleton] at hx
    subst hx
    rw [List.mem_singleton] at hy
    subst hy
    unfold I64
    decide
  · show 1 ≤ _; omega
  · show 0 ≤ _; omega
  · show 1 ≤ _; omega
  · intro x hx
    rw [show smallM.types = [⟨⟨#[84]⟩, [⟨⟨#[120]⟩, 1⟩]⟩] from rfl, List.mem_singleton] at hx
    subst hx
    show 1 ≤ _; omega
  · intro x hx
    rw [show smallM.seens = [⟨1, ⟨⟨#[84]⟩, 3, [⟨1, -1, ⟨#[]⟩, false⟩]⟩, false⟩] from rfl, List.mem_singleton] at hx
    subst hx
    show 1 ≤ _; omega
theorem getD_all {α : Type} {P : α → Prop} (xs : List α) (z : α) (hz : P z) (h : ∀ x ∈ xs, P x) (i : Nat) : P (xs.getD i z) := by
  rw [List.getD_eq_getElem?_getD]
  cases hx : xs[i]? with
  | none => exact hz
  | some x => exact h x (List.mem_of_getElem? hx)
theorem imgB_of {m : Img} (h1 : m.types.length ≤ 4611686018427387904) (h2 : m.saved.length ≤ 4611686018427387904) (h3 : m.seens.length ≤ 4611686018427387904) (h4 : ∀ x ∈ m.types, x.f1.length ≤ 4611686018427387904) (h5 : ∀ x ∈ m.seens, x.f1.f2.length ≤ 4611686018427387904) : ImgB m :=
  ⟨h1, h2, h3, fun i => getD_all (P := fun x : S64 => x.f1.length ≤ 4611686018427387904) m.types z64 (by show ([] : List S61).length ≤ _; simp) h4 _, fun i => getD_all (P := fun x : S71 => x.f1.f2.length ≤ 4611686018427387904) m.seens z71 (by show ([] : List S66).length ≤ _; simp) h5 _⟩
theorem small_B : ImgB smallM := by
  refine imgB_of ?_ ?_ ?_ ?_ ?_
  · show 1 ≤ _; omega
  · show 0 ≤ _; omega
  · show 1 ≤ _; omega
  · intro x hx
    rw [show smallM.types = [⟨⟨#[84]⟩, [⟨⟨#[120]⟩, 1⟩]⟩] from rfl, List.mem_singleton] at hx
    subst hx
    show 1 ≤ _; omega
  · intro x hx
    rw [show smallM.seens = [⟨1, ⟨⟨#[84]⟩, 3, [⟨1, -1, ⟨#[]⟩, false⟩]⟩, false⟩] from rfl, List.mem_singleton] at hx
    subst hx
    show 1 ≤ _; omega
theorem small_len : smallB.length = 29 := rfl
theorem small_bytes : Bytes smallB := by
  rw [← small_saveB]
  exact (save_summed small_I small_saveE).bytes
theorem small_load : loadF smallB = (smallM, 0) := by
  rw [← small_saveB]
  exact load_save small_I small_saveE
theorem small_any (w : World) : Calls Tryd.prog 10 #[] w fun e w' => ∃ A4 c4 A5 c5 A6 c6 A7 c7, e = .returned (.tuple #[imgV smallM (.slice A4 smallM.types.length c4) (.slice A5 smallM.saved.length c5) (.slice A6 smallM.seens.length c6), .slice A7 smallB.length c7]) ∧
    ImgV w' smallM A4 c4 A5 c5 A6 c6 ∧ (Kd.C (Kd.int .u8) w' A7 smallB.length smallB ∧ smallB.length ≤ c7) ∧ Below w.heap.size w w' := by
  refine (refrainlaw22_small.calls _ _ _ _ _ _ _ _ w rfl).mono ?_
  rintro e w' ⟨v4, v5, v6, v7, rfl, h4, h5, h6, h7, hB⟩
  obtain ⟨A4, c4, rfl, l4, C4⟩ := Kd.N_reads h4
  obtain ⟨A5, c5, rfl, l5, C5⟩ := Kd.R_reads h5
  obtain ⟨A6, c6, rfl, l6, C6⟩ := Kd.N_reads h6
  obtain ⟨A7, c7, rfl, l7, C7⟩ := Kd.R_reads h7
  exact ⟨A4, c4, A5, c5, A6, c6, A7, c7, rfl, ⟨⟨C4, l4⟩, ⟨C5, l5⟩, ⟨C6, l6⟩⟩, ⟨C7, l7⟩, hB⟩
end Go.Proofs.YtcfgmkmllcfjjaaDoor
