/-
  The law PlaceFresh: for every query the call returns true and its argument reads as it did.
  Conditions: none beyond the row's own.
-/
import Derived.Test.YtgnifglolbfamaaRows
import Derived.Test.YtgnifglolbfamaaZAH
import Derived.Test.YtgnifglolbfamaaZAI
import Derived.Test.YtgnifglolbfamaaZAJ
import Derived.Test.YtgnifglolbfamaaZAL
import Derived.Test.YtgnifglolbfamaaZBC
import Derived.Test.YtgnifglolbfamaaZBD
namespace Go.Proofs.Ytgnifglolbfamaa.placeFresh
open Go.ChangeShapes Go.WideShapes Go.ChangeAt Go.RowKit
set_option linter.unusedVariables false

theorem add_law : AddLaw := fun _ _ _ _ _ _ h k n hv hni x A c hN hc hCx hlen hbase => add_any h k n hv hni x A c hN hc hCx hlen hbase
theorem add_lawD : D.AddLaw := fun _ _ _ _ _ _ h k n hv hni x A c hN hc hCx hlen hbase => D.add_any h k n hv hni x A c hN hc hCx hlen hbase

set_option maxRecDepth 100000 in
theorem lifted (os : Os) (started : os.Started) (H : Type) (enc : TypeId × Value → H) :
    ReturnsInHanded {} Try.checked os 4 .any (Rows.placeFreshSpec.pre6 enc Try.prog Try.f4 Rows.placeFreshRow.domain false) (Rows.placeFreshSpec.post enc Try.prog Try.f4 false true false false) := by
  refine returnsInHanded_of_change_sized (C := Try.checked) placeMoments.own started (by kernel_rfl) Try.func4
    (ChangeSpec.witness6 (enc := enc) (C := Try.checked) false ⟨#[], #[.agg #[.slice none 0 0, .string ⟨#[]⟩, .int .i64 0, .slice none 0 0, .slice none 0 0, .int .i64 0, .string ⟨#[]⟩, .slice none 0 0]], []⟩ 8 (by kernel_rfl) (by kernel_rfl) (by kernel_rfl) (by kernel_rfl)) ?_
  intro W base args ds gs before hval0 hW hcnd hz _
  have hval : ∀ (j : Nat) t v, Try.f4.params[j]? = some t → args[j]? = some v → Value.okWide Try.prog W .any base t v := hval0
  have hW' := hW
  obtain ⟨p, q, hA0, hV, rfl, hfz, hnd⟩ := hW
  have hA : DataW.TrodAll enc Try.prog W 0 (fun _ => true) true Try.f4.params.toList args.toList ds p := hA0
  rw [Try.params4] at hA hval
  obtain ⟨v0, vs0, d0, ds0, p0, q0, hargs, rfl, rfl, h0, r0⟩ := trodAll_cons hA
  obtain ⟨rfl, rfl, rfl⟩ := trodAll_nil r0
  obtain rfl : args = #[v0] := by cases args; simp_all
  obtain ⟨rfl, rfl⟩ := trodVars_none hV
  obtain ⟨c0, rfl, _⟩ := okWide_struct Try.underlying27 (hval 0 27 v0 rfl rfl)
  have k0 := h0
  have lt0 : ∀ x ∈ p0, x.block < W.heap.size := by obtain ⟨m, hm⟩ := k0; exact DataW.trod_lt m _ _ _ hm
  have hz1 : (DataW.weightsEach Try.prog [27] [d0]).all (· ≤ reachBytes) = true := hz
  obtain ⟨f0, hf0⟩ := h0
  obtain ⟨A, cs, c, q1, q2, A3, n3, c3, AW, ws, cw, q5, q6, AI, its, ci, e0, g2, g3, g4, g5, g6, g7, g8, g9⟩ := query_open2 hf0
  have hcb0 := g9 reachBytes (List.all_eq_true.2 (fun k hk => List.all_eq_true.1 hz1 k (DataW.weights_mem_each (j := 0) (t := 27) (d := d0) rfl rfl k hk)))
  have hcb : cs.length * 40 ≤ 140737488351232 := Nat.le_trans hcb0 (by decide)
  have e0 := placeMoments.arr_of e0
  subst e0
  clear hA0 hval0
  refine (fresh_walk (begun_any add_law) add_lawD cs A c q1 q2 A3 n3 c3 ws AW cw q5 q6 its AI ci W g2 g8 g3 g5 g7 g4 g6 hcb).mono fun e W' ⟨he, bel⟩ => ?_
  subst he
  exact ⟨_, rfl, _, _, _, [], _, [], hW', trodAll_mk1 (shut_bool Try.underlying4 _), trodAll_cons_mk (Below.trod placeMoments.laidOut (by kernel_rfl) (of_decide_eq_true (by kernel_rfl)) k0 bel lt0) trodAll_mk0, rfl, bel.frame _, fun h => by cases h⟩

theorem over : Rows.placeFreshRow.holds Try.pinned (OpenSpec.ofChange Rows.placeFreshSpec) :=
  OpenClaim.holds_of_wide 4 Try.f4 rfl rfl rfl rfl rfl rfl rfl ⟨rfl, rfl, rfl, rfl, rfl⟩ rfl rfl rfl rfl rfl (by kernel_rfl) Try.func4 (by kernel_rfl)
    (of_decide_eq_true (by kernel_rfl)) (by unfold Func.isWrapper; first | (rw [if_pos (by decide +kernel)]; kernel_rfl) | (rw [if_neg (by decide +kernel)]; exact ⟨rfl, rfl⟩))
    (fun os started H enc _ => lifted os started H enc)
end Go.Proofs.Ytgnifglolbfamaa.placeFresh
namespace Go.Proofs.Ytgnifglolbfamaa
/-- PlaceFresh, as given. -/
theorem placeFresh_holds : Rows.PlaceFreshSaid := placeFresh.over
end Go.Proofs.Ytgnifglolbfamaa
