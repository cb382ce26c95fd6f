/- A layout's stages read as a list; how often a condition stands in them. -/
import Derived.Test.YtgnifglolbfamaaPnE
set_option linter.unusedVariables false
set_option linter.unusedSimpArgs false
namespace Go.Proofs.Ytgnifglolbfamaa
open Go.RowKit Go.Proofs.YtgnifglolbfamaaW.PrintWords

def negsL (cs : List Cp) (L : Nat → Nat → List Ex) (s : Nat) : List Ng := (ngI cs cs.length s).map (fun i => ⟨(cpA cs i).f2, (cpA cs i).f3, L 4 i⟩)
def stagesL (cs : List Cp) (T U : Nat → ByteArray) (Pl : Nat → Bool) (L : Nat → Nat → List Ex) : List Sg := (List.range (stg cs)).map (fun s => ⟨T s, U s, Pl s, negsL cs L s, L 1 s, L 2 s, L 3 s⟩)
theorem stagesL_len (cs : List Cp) (T U : Nat → ByteArray) (Pl : Nat → Bool) (L : Nat → Nat → List Ex) : (stagesL cs T U Pl L).length = stg cs := by unfold stagesL; simp

theorem everyX_evF (cs : List Cp) (T U : Nat → ByteArray) (Pl : Nat → Bool) (L : Nat → Nat → List Ex) (e : Ex) : everyX (stagesL cs T U Pl L) (L 5 0) e = evF cs (fun k i => cntX (L k i) e) := by
  unfold everyX evF stagesL
  rw [sumN_map]
  congr 1
  refine sumN_congr _ _ _ (fun s _ => ?_)
  unfold sgCnt negsL
  simp only
  rw [sumN_map]
  rfl

section
variable {w : World} {base G : Nat} {cs : List Cp} {L : Nat → Nat → List Ex} {S N : Nat} {T U : Nat → ByteArray} {Pl : Nat → Bool} {nb cap : Nat → Nat} {junk V : Nat → Nat → Value} {f : Nat → Nat}
theorem addr0 (g n : Nat) : Addr.add ⟨g, 0, none⟩ n = ⟨g, n, none⟩ := by
  simp only [Addr.add]
  split
  · rename_i h; rw [h]
  · simp
theorem LayIn.negs (h : LayIn w base G cs L S N T U Pl nb cap junk V f) (h8 : cs.length ≤ 8) (s : Nat) (hs : ngI cs cs.length s ≠ []) : kNg.C w (some ⟨nb s, 0, none⟩) (ngI cs cs.length s).length (negsL cs L s) := by
  have hlen : (negsL cs L s).length = (ngI cs cs.length s).length := by unfold negsL; rw [List.length_map]
  have hnl := ngI_len cs cs.length s
  obtain ⟨_, hcap, hrow⟩ := h.hB s hs
  refine ⟨hlen, by omega, fun _ => ⟨_, rfl, fun j p hj => ?_⟩⟩
  obtain ⟨hjl, hjp⟩ := List.getElem?_eq_some_iff.1 hj
  rw [hlen] at hjl
  obtain ⟨i, hi⟩ : ∃ i, (ngI cs cs.length s)[j]? = some i := ⟨_, List.getElem?_eq_getElem hjl⟩
  have hp : p = ⟨(cpA cs i).f2, (cpA cs i).f3, L 4 i⟩ := by
    unfold negsL at hj
    rw [List.getElem?_map, hi] at hj
    simpa using hj.symm
  obtain ⟨A, c, hv, hc, hC⟩ := Kd.R_reads (h.hL 4 i (by decide))
  have hK := kNg_mk w ⟨(cpA cs i).f2, (cpA cs i).f3, L 4 i⟩ hc hC
  refine ⟨_, rfl, by rw [hp]; exact hK, fun r u hu => ?_⟩
  rw [addr0]
  show w.cell? ⟨nb s, j * 3 + r, none⟩ = some u
  have hr : r < 3 := (List.getElem?_eq_some_iff.1 hu).1
  rw [hrow.cell (by omega)]
  unfold cellN
  rw [show (j * 3 + r) / 3 = j from by omega, hi, show (j * 3 + r) % 3 = r from by omega]
  have hr3 : r = 0 ∨ r = 1 ∨ r = 2 := by omega
  rcases hr3 with rfl | rfl | rfl
  · simpa using hu
  · simpa using hu
  · simp at hu ⊢
    rw [hv]
    exact hu
theorem LayIn.reads (h : LayIn w base G cs L S N T U Pl nb cap junk V f) (h8 : cs.length ≤ 8) : kSg.C w (some ⟨S, 0, none⟩) (stg cs) (stagesL cs T U Pl L) := by
  have hst := stg_len cs
  refine ⟨stagesL_len _ _ _ _ _, by omega, fun _ => ⟨_, rfl, fun s p hj => ?_⟩⟩
  obtain ⟨hjl, hjp⟩ := List.getElem?_eq_some_iff.1 hj
  rw [stagesL_len] at hjl
  have hp : p = ⟨T s, U s, Pl s, negsL cs L s, L 1 s, L 2 s, L 3 s⟩ := by
    unfold stagesL at hj
    rw [List.getElem?_map, List.getElem?_range hjl] at hj
    simpa using hj.symm
  obtain ⟨A4, c4, hv4, hc4, hC4⟩ := Kd.R_reads (h.hL 1 s (by decide))
  obtain ⟨A5, c5, hv5, hc5, hC5⟩ := Kd.R_reads (h.hL 2 s (by decide))
  obtain ⟨A6, c6, hv6, hc6, hC6⟩ := Kd.R_reads (h.hL 3 s (by decide))
  have h3 : ∃ A3 c3, nv cs nb cap s = .slice A3 (negsL cs L s).length c3 ∧ (negsL cs L s).length ≤ c3 ∧ kNg.C w A3 (negsL cs L s).length (negsL cs L s) := by
    have hlen : (negsL cs L s).length = (ngI cs cs.length s).length := by unfold negsL; rw [List.length_map]
    unfold nv
    by_cases he : ngI cs cs.length s = []
    · rw [if_pos he]
      have : negsL cs L s = [] := by unfold negsL; rw [he]; rfl
      rw [this]
      exact ⟨none, 0, rfl, Nat.le_refl _, Kd.C_nil _ _⟩
    · rw [if_neg he, hlen]
      exact ⟨_, _, rfl, (h.hB s he).2.1, h.negs h8 s he⟩
  obtain ⟨A3, c3, hv3, hc3, hC3⟩ := h3
  have hK := kSg_mk w ⟨T s, U s, Pl s, negsL cs L s, L 1 s, L 2 s, L 3 s⟩ hc3 hC3 hc4 hC4 hc5 hC5 hc6 hC6
  refine ⟨_, rfl, by rw [hp]; exact hK, fun r u hu => ?_⟩
  rw [addr0]
  show w.cell? ⟨S, s * 7 + r, none⟩ = some u
  have hr : r < 7 := (List.getElem?_eq_some_iff.1 hu).1
  have hc : w.cell? ⟨S, s * 7 + r, none⟩ = some (cellS T U Pl (nv cs nb cap) (V 1) (V 2) (V 3) (s * 7 + r)) := h.hS.cell (by omega)
  rw [hc]
  have hr7 : r = 0 ∨ r = 1 ∨ r = 2 ∨ r = 3 ∨ r = 4 ∨ r = 5 ∨ r = 6 := by omega
  rcases hr7 with rfl | rfl | rfl | rfl | rfl | rfl | rfl
  · rw [Nat.add_zero, cellS_at0]; exact hu
  · rw [cellS_at1]; exact hu
  · rw [cellS_at2]; exact hu
  · rw [cellS_at3, hv3]; exact hu
  · rw [cellS_at4, hv4]; exact hu
  · rw [cellS_at5, hv5]; exact hu
  · rw [cellS_at6, hv6]; exact hu
end
end Go.Proofs.Ytgnifglolbfamaa
