/-
  The law ShellBack, where what it reads is of bulk at most 1048576: the call returns true and its argument reads as it did.
  Conditions: the row's own bound on the argument's bulk (the statement's second form), and nothing else.
-/
import Derived.Test.YtgnifglolbfamaaRows
import Derived.Test.YtgnifglolbfamaaBulk
import Derived.Test.YtgnifglolbfamaaShQ
import Derived.WalkKit
import Derived.ProofKit
import Derived.OpenShut
import Derived.JoinedCond
import Derived.SliceStrings
namespace Go.Proofs.Ytgnifglolbfamaa.shellBackU
open Go.ChangeShapes Go.WideShapes Go.ChangeAt Go.RowKit
set_option linter.unusedVariables false

theorem own : ownKnob Try.prog.godebug = none := by kernel_rfl
theorem laidOut : laidOutB Try.prog = true := by kernel_rfl

/-- The strings of a slice that reads as data, and their sizes under the bound. -/
theorem strs_small {H : Type} (ss : List ByteArray) (len : Nat) (hk : Rows.uptoBulkAll [DataW.slice (H := H) (strs (ss.take len)) (strs (ss.drop len))] ≤ 1048576) (i : Nat) (hi : i < len) (hl : len ≤ ss.length) : (ss.getD i ByteArray.empty).size ≤ 1048576 := by
  have h1 : (ss.getD i ByteArray.empty) ∈ ss.take len := by
    rw [List.getD_eq_getElem?_getD, List.getElem?_eq_getElem (by omega)]
    exact List.mem_take_iff_getElem.2 ⟨i, by omega, rfl⟩
  have h2 : (DataW.lit (H := H) (.string (ss.getD i ByteArray.empty).data.toList)) ∈ strs (H := H) (ss.take len) := List.mem_map.2 ⟨_, h1, rfl⟩
  have h3 := bulks.part_le h2
  have h4 := bulks.slice_elems (H := H) (strs (ss.take len)) (strs (ss.drop len))
  rw [bulks.string_eq] at h3
  simp only [Rows.uptoBulkAll] at hk
  have h5 : (ss.getD i ByteArray.empty).data.toList.length = (ss.getD i ByteArray.empty).size := by rw [Array.length_toList]; rfl
  omega

set_option maxRecDepth 100000 in
theorem contract (H : Type) (enc : TypeId × Value → H) (W : World) (base : Nat) (args : Array Value) (ds gs : List (DataW H)) (before : List MemPlace)
    (hval : ∀ (j : Nat) t v, Try.f7.params[j]? = some t → args[j]? = some v → Value.okWide Try.prog W .any base t v)
    (hW : DataW.Whole enc Try.prog Try.f7.params.toList Rows.shellBackSpec.vars false W args.toList ds gs before) (hk : Rows.uptoSmall H (ds ++ gs) = true) :
    Calls Try.prog 7 args W fun e W' => ∃ v, e = .returned v ∧ Rows.shellBackSpec.post enc Try.prog Try.f7 false true false false W args v W' := by
  have hW' := hW
  obtain ⟨p, q, hA0, hV, rfl, hfz, hnd⟩ := hW
  have hA : DataW.TrodAll enc Try.prog W 0 (fun _ => true) true Try.f7.params.toList args.toList ds p := hA0
  rw [Try.params7] at hA hval
  obtain ⟨v0, vs0, d0, ds0, p0, q0, hargs, rfl, rfl, h0, r0⟩ := trodAll_cons hA
  obtain ⟨rfl, rfl, rfl⟩ := trodAll_nil r0
  obtain rfl : args = #[v0] := by cases args; simp_all
  obtain ⟨rfl, rfl⟩ := trodVars_none hV
  obtain ⟨a0, len0, cap0, rfl⟩ := okWide_slice Try.underlying23 (hval 0 23 v0 rfl rfl)
  have k0 := h0
  have lt0 : ∀ x ∈ p0, x.block < W.heap.size := by obtain ⟨m, hm⟩ := k0; exact DataW.trod_lt m _ _ _ hm
  have hb : Rows.uptoBulkAll ([d0] ++ []) ≤ 1048576 := of_decide_eq_true hk
  have hmain : ∃ ss : Nat → ByteArray, len0 ≤ 9223372036854775807 ∧ (∀ i, i < len0 → ∃ ad, a0 = some ad ∧ W.cell? (ad.add i) = some (.string (ss i))) ∧ ∀ i, i < len0 → (ss i).size ≤ 1000000000000 := by
    obtain ⟨fuel, hf⟩ := h0
    rcases open_strings Try.underlying23 Try.underlying9 (by kernel_rfl) hf with ⟨hcs, hx⟩ | ⟨a, len', cap', ss, hcs, _, hl, hm, hz, hx, hcell, hws⟩
    · simp [Value.cells] at hcs
      obtain ⟨rfl, rfl, rfl⟩ := hcs
      exact ⟨fun _ => ByteArray.empty, by omega, fun i hi => by omega, fun i hi => by omega⟩
    · simp [Value.cells] at hcs
      obtain ⟨rfl, rfl, rfl⟩ := hcs
      simp only [Prod.mk.injEq] at hx
      obtain ⟨rfl, _⟩ := hx
      simp only [if_true] at hz
      refine ⟨fun i => ss.getD i ByteArray.empty, by simp only [maxLen] at hm; omega, fun i hi => ⟨a, rfl, hcell i (by omega)⟩, fun i hi => ?_⟩
      have := strs_small ss len0 (by simpa using hb) i hi (by omega)
      show (ss.getD i ByteArray.empty).size ≤ _
      omega
  obtain ⟨ss, g1, g2, g3⟩ := hmain
  clear hA0 hval
  refine (shellBack_walk a0 len0 cap0 ss W g1 g2 g3).mono fun e W' ⟨he, bel⟩ => ?_
  subst he
  exact ⟨_, rfl, _, _, _, [], _, [], hW', trodAll_mk1 (shut_bool Try.underlying4 _), (trodAll_cons_mk (Below.trod laidOut (by kernel_rfl) (of_decide_eq_true (by kernel_rfl)) k0 bel lt0) trodAll_mk0), rfl, bel.frame _, fun h => by cases h⟩

set_option maxRecDepth 100000 in
theorem lifted (os : Os) (started : os.Started) (H : Type) (enc : TypeId × Value → H) (F : Stop.Interp) :
    ReturnsInHanded {} Try.checked os 7 .any ((Rows.OpenSpec.upto Rows.shellBackSpec).pre6 enc Try.prog Try.f7 Rows.shellBackUptoRow.domain false) (((Rows.OpenSpec.upto Rows.shellBackSpec).at F).post enc Try.prog Try.f7 false true false false) := by
  refine returnsInHanded_of_cond (C := Try.checked) (s := Rows.OpenSpec.upto Rows.shellBackSpec) (k := Rows.uptoSmall) rfl own started (by kernel_rfl) Try.func7
    (OpenSpec.witness (enc := enc) (C := Try.checked) (s := Rows.OpenSpec.upto Rows.shellBackSpec) (k := Rows.uptoSmall) rfl false ⟨#[], #[.slice none 0 0], []⟩ 8 (by kernel_rfl) (by kernel_rfl) (by kernel_rfl)
      (x := ([.nil], [], [])) (by kernel_rfl) rfl (by kernel_rfl)) ?_
  intro W base args ds gs before hval hW _ hk _
  exact contract H enc W base args ds gs before hval hW hk

theorem over : Rows.shellBackUptoRow.holds Try.pinned (Rows.OpenSpec.upto Rows.shellBackSpec) :=
  OpenClaim.holds_of_cond 7 Try.f7 rfl rfl rfl rfl rfl rfl rfl ⟨rfl, rfl, rfl, rfl, rfl⟩ rfl rfl rfl rfl rfl (by kernel_rfl) Try.func7 (by kernel_rfl)
    (of_decide_eq_true (by kernel_rfl)) (by unfold Func.isWrapper; first | (rw [if_pos (by decide +kernel)]; kernel_rfl) | (rw [if_neg (by decide +kernel)]; exact ⟨rfl, rfl⟩))
    (fun os started H enc _ F => lifted os started H enc F)

end Go.Proofs.Ytgnifglolbfamaa.shellBackU
namespace Go.Proofs.Ytgnifglolbfamaa
/-- ShellBack, the second form. -/
theorem shellBackUpto_holds : Rows.ShellBackUptoSaid := shellBackU.over
end Go.Proofs.Ytgnifglolbfamaa
