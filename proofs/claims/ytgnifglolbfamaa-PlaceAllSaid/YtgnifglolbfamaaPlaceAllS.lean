/-
  The law PlaceAll: for every query the call returns true and its argument reads as it did.
  Conditions: none beyond the row's own.
-/
import Derived.Test.YtgnifglolbfamaaRows
import Derived.Test.YtgnifglolbfamaaPmR
import Derived.Test.YtgnifglolbfamaaPmB
import Derived.Test.YtgnifglolbfamaaPnI
import Derived.Test.YtgnifglolbfamaaPlY
namespace Go.Proofs.Ytgnifglolbfamaa.placeAll
open Go.ChangeShapes Go.WideShapes Go.ChangeAt Go.RowKit
set_option linter.unusedVariables false

theorem add_law : AddLaw := fun _ _ _ _ _ _ h k n hv hni x A c hN hc hCx hlen hbase => add_any h k n hv hni x A c hN hc hCx hlen hbase

set_option maxRecDepth 100000 in
theorem lifted (os : Os) (started : os.Started) (H : Type) (enc : TypeId × Value → H) :
    ReturnsInHanded {} Try.checked os 5 .any (Rows.placeAllSpec.pre6 enc Try.prog Try.f5 Rows.placeAllRow.domain false) (Rows.placeAllSpec.post enc Try.prog Try.f5 false true false false) := by
  refine returnsInHanded_of_change (C := Try.checked) placeMoments.own started (by kernel_rfl) Try.func5
    (ChangeSpec.witness6 (enc := enc) (C := Try.checked) false ⟨#[], #[.agg #[.slice none 0 0, .string ⟨#[]⟩, .int .i64 0, .slice none 0 0, .slice none 0 0, .int .i64 0, .string ⟨#[]⟩, .slice none 0 0]], []⟩ 8 (by kernel_rfl) (by kernel_rfl) (by kernel_rfl) (by kernel_rfl)) ?_
  intro W base args ds gs before hval0 hW hcnd _
  have hval : ∀ (j : Nat) t v, Try.f5.params[j]? = some t → args[j]? = some v → Value.okWide Try.prog W .any base t v := hval0
  have hW' := hW
  obtain ⟨p, q, hA0, hV, rfl, hfz, hnd⟩ := hW
  have hA : DataW.TrodAll enc Try.prog W 0 (fun _ => true) true Try.f5.params.toList args.toList ds p := hA0
  rw [Try.params5] at hA hval
  obtain ⟨v0, vs0, d0, ds0, p0, q0, hargs, rfl, rfl, h0, r0⟩ := trodAll_cons hA
  obtain ⟨rfl, rfl, rfl⟩ := trodAll_nil r0
  obtain rfl : args = #[v0] := by cases args; simp_all
  obtain ⟨rfl, rfl⟩ := trodVars_none hV
  obtain ⟨c0, rfl, _⟩ := okWide_struct Try.underlying27 (hval 0 27 v0 rfl rfl)
  have k0 := h0
  have lt0 : ∀ x ∈ p0, x.block < W.heap.size := by obtain ⟨m, hm⟩ := k0; exact DataW.trod_lt m _ _ _ hm
  obtain ⟨f0, hf0⟩ := h0
  obtain ⟨A, cs, c, q1, q2, v3, AW, ws, cw, q5, q6, AI, its, ci, e0, g1, g2, g3, g4, g5, g6, g7⟩ := query_open hf0
  have e0 := placeMoments.arr_of e0
  subst e0
  clear hA0 hval0
  refine (all_walk (begun_any add_law) add_law cs A c q1 q2 v3 ws AW cw q5 q6 its AI ci g1 W g2 g3 g5 g7 g4 g6).mono fun e W' ⟨he, bel⟩ => ?_
  subst he
  exact ⟨_, rfl, _, _, _, [], _, [], hW', trodAll_mk1 (shut_bool Try.underlying4 _), trodAll_cons_mk (Below.trod placeMoments.laidOut (by kernel_rfl) (of_decide_eq_true (by kernel_rfl)) k0 bel lt0) trodAll_mk0, rfl, bel.frame _, fun h => by cases h⟩

theorem over : Rows.placeAllRow.holds Try.pinned (OpenSpec.ofChange Rows.placeAllSpec) :=
  OpenClaim.holds_of_wide 5 Try.f5 rfl rfl rfl rfl rfl rfl rfl ⟨rfl, rfl, rfl, rfl, rfl⟩ rfl rfl rfl rfl rfl (by kernel_rfl) Try.func5 (by kernel_rfl)
    (of_decide_eq_true (by kernel_rfl)) (by unfold Func.isWrapper; first | (rw [if_pos (by decide +kernel)]; kernel_rfl) | (rw [if_neg (by decide +kernel)]; exact ⟨rfl, rfl⟩))
    (fun os started H enc _ => lifted os started H enc)
end Go.Proofs.Ytgnifglolbfamaa.placeAll
namespace Go.Proofs.Ytgnifglolbfamaa
/-- PlaceAll, as given. -/
theorem placeAll_holds : Rows.PlaceAllSaid := placeAll.over
end Go.Proofs.Ytgnifglolbfamaa
