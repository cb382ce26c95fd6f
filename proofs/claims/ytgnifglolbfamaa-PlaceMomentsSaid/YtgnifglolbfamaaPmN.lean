/- The walk of PlaceMoments for every kind of place. -/
import Derived.Test.YtgnifglolbfamaaPmR
import Derived.Test.YtgnifglolbfamaaPmB
import Derived.Test.YtgnifglolbfamaaPmM1
import Derived.Test.YtgnifglolbfamaaPmM2
import Derived.Test.YtgnifglolbfamaaPmM3
import Derived.Test.YtgnifglolbfamaaPmM4
import Derived.Test.YtgnifglolbfamaaPmM5
set_option linter.unusedVariables false
namespace Go.Proofs.Ytgnifglolbfamaa
open Go.RowKit Go.Proofs.YtgnifglolbfamaaW.PrintWords

theorem mom_law (hadd : AddLaw) : MomLaw := by
  intro cs A c q1 q2 v3 ws AW cw q5 q6 its AI ci h3 x B cb w hc hC hW hI hnm hnr hcb hCx
  have hb := begun_any hadd
  by_cases hf : (anchorTop cs (refsOf x)).2.2 = 0
  · have hk : ∃ k : Int, (anchorTop cs (refsOf x)).1 = k ∧ (k = 1 ∨ k = 2 ∨ k = 3 ∨ k = 4 ∨ k = 5) := by
      obtain ⟨hpe, hao⟩ := anchorTop_ok (show anchorTop cs (refsOf x) = ((anchorTop cs (refsOf x)).1, (anchorTop cs (refsOf x)).2.1, 0) by rw [← hf])
      obtain ⟨k, n, h1, _, _, hl⟩ := anchor_law hao hpe
      refine ⟨k, h1, ?_⟩
      rcases hl with ⟨h | h | h, _⟩ | ⟨h, _⟩ | ⟨h, _⟩ <;> omega
    obtain ⟨k, hk, hcase⟩ := hk
    rcases hcase with rfl | rfl | rfl | rfl | rfl
    · exact moments_1 hb cs A c q1 q2 v3 ws AW cw q5 q6 its AI ci h3 x B cb w hc hC hW hI hnm hnr (fun _ => hk) hcb hCx
    · exact moments_2 hb cs A c q1 q2 v3 ws AW cw q5 q6 its AI ci h3 x B cb w hc hC hW hI hnm hnr (fun _ => hk) hcb hCx
    · exact moments_3 hb cs A c q1 q2 v3 ws AW cw q5 q6 its AI ci h3 x B cb w hc hC hW hI hnm hnr (fun _ => hk) hcb hCx
    · exact moments_4 hb cs A c q1 q2 v3 ws AW cw q5 q6 its AI ci h3 x B cb w hc hC hW hI hnm hnr (fun _ => hk) hcb hCx
    · exact moments_5 hb cs A c q1 q2 v3 ws AW cw q5 q6 its AI ci h3 x B cb w hc hC hW hI hnm hnr (fun _ => hk) hcb hCx
  · exact moments_2 hb cs A c q1 q2 v3 ws AW cw q5 q6 its AI ci h3 x B cb w hc hC hW hI hnm hnr (fun h => absurd h hf) hcb hCx
end Go.Proofs.Ytgnifglolbfamaa
