/- The row PlaceMoments, out of its walk. -/
import Derived.Test.YtgnifglolbfamaaRows
import Derived.Test.YtgnifglolbfamaaPmG
import Derived.WalkKit
import Derived.ProofKit
import Derived.OpenShut
import Derived.ShutString
import Derived.ChangeOld
import Derived.Below
namespace Go.Proofs.Ytgnifglolbfamaa
open Go.RowKit
/-- The walk, for every query and expression that read as data. -/
def MomLaw : Prop := ∀ (cs : List Cp) (A : Option Addr) (c : Nat) (q1 : ByteArray) (q2 : Int) (v3 : Value) (ws : List Ex) (AW : Option Addr) (cw : Nat) (q5 : Int) (q6 : ByteArray) (its : List It) (AI : Option Addr) (ci : Nat), v3.oneCell' = true → ∀ (x : Ex) (B : Option Addr) (cb : Nat) (w : World),
    cs.length ≤ c → kCp.C w A cs.length cs → kEx.C w AW ws.length ws → kIt.C w AI its.length its → (∀ x ∈ cs, x.f3.size ≤ maxLen) → (∀ r ∈ refsOf x, r.f0.size ≤ maxLen) → x.f6.length ≤ cb → kEx.C w B x.f6.length x.f6 →
    Calls Try.prog 3 #[.agg #[.slice A cs.length c, .string q1, .int .i64 q2, v3, .slice AW ws.length cw, .int .i64 q5, .string q6, .slice AI its.length ci], exV x (.slice B x.f6.length cb)] w (True_ w)
end Go.Proofs.Ytgnifglolbfamaa
namespace Go.Proofs.Ytgnifglolbfamaa.placeMoments
open Go.ChangeShapes Go.WideShapes Go.ChangeAt Go.RowKit
set_option linter.unusedVariables false

theorem own : ownKnob Try.prog.godebug = none := by kernel_rfl
theorem laidOut : laidOutB Try.prog = true := by kernel_rfl
theorem arr_of {c : Array Value} {l : List Value} (h : (Value.agg c).cells.toList = l) : c = l.toArray := by
  have h2 : c.toList = l := h
  rw [← h2]

set_option maxRecDepth 100000 in
theorem lifted (hm : MomLaw) (os : Os) (started : os.Started) (H : Type) (enc : TypeId × Value → H) :
    ReturnsInHanded {} Try.checked os 3 .any (Rows.placeMomentsSpec.pre6 enc Try.prog Try.f3 Rows.placeMomentsRow.domain false) (Rows.placeMomentsSpec.post enc Try.prog Try.f3 false true false false) := by
  refine returnsInHanded_of_change (C := Try.checked) own started (by kernel_rfl) Try.func3
    (ChangeSpec.witness6 (enc := enc) (C := Try.checked) false ⟨#[], #[.agg #[.slice none 0 0, .string ⟨#[]⟩, .int .i64 0, .slice none 0 0, .slice none 0 0, .int .i64 0, .string ⟨#[]⟩, .slice none 0 0], .agg #[.int .i64 0, .int .i64 0, .int .i64 0, .int .i64 0, .string ⟨#[]⟩, .bool false, .string ⟨#[]⟩, .int .i64 0, .string ⟨#[]⟩, .slice none 0 0]], []⟩ 8 (by kernel_rfl) (by kernel_rfl) (by kernel_rfl) (by kernel_rfl)) ?_
  intro W base args ds gs before hval0 hW hcnd _
  have hval : ∀ (j : Nat) t v, Try.f3.params[j]? = some t → args[j]? = some v → Value.okWide Try.prog W .any base t v := hval0
  have hW' := hW
  obtain ⟨p, q, hA0, hV, rfl, hfz, hnd⟩ := hW
  have hA : DataW.TrodAll enc Try.prog W 0 (fun _ => true) true Try.f3.params.toList args.toList ds p := hA0
  rw [Try.params3] at hA hval
  obtain ⟨v0, vs0, d0, ds0, p0, q0, hargs, rfl, rfl, h0, r0⟩ := trodAll_cons hA
  obtain ⟨v1, vs1, d1, ds1, p1, q1, rfl, rfl, rfl, h1, r1⟩ := trodAll_cons r0
  obtain ⟨rfl, rfl, rfl⟩ := trodAll_nil r1
  obtain rfl : args = #[v0, v1] := by cases args; simp_all
  obtain ⟨rfl, rfl⟩ := trodVars_none hV
  obtain ⟨c0, rfl, _⟩ := okWide_struct Try.underlying27 (hval 0 27 v0 rfl rfl)
  obtain ⟨c1, rfl, _⟩ := okWide_struct Try.underlying31 (hval 1 31 v1 rfl rfl)
  have k0 := h0
  have k1 := h1
  have lt0 : ∀ x ∈ p0, x.block < W.heap.size := by obtain ⟨m, hm⟩ := k0; exact DataW.trod_lt m _ _ _ hm
  have lt1 : ∀ x ∈ p1, x.block < W.heap.size := by obtain ⟨m, hm⟩ := k1; exact DataW.trod_lt m _ _ _ hm
  obtain ⟨f0, hf0⟩ := h0
  obtain ⟨f1, hf1⟩ := h1
  obtain ⟨A, cs, c, q1, q2, v3, AW, ws, cw, q5, q6, AI, its, ci, e0, g1, g2, g3, g4, g5, _, g7⟩ := query_open hf0
  obtain ⟨x, hK, hN⟩ := ex_open _ _ _ hf1
  obtain ⟨B, cb, e1, hcb, hCx⟩ := kEx_open hK
  have e0 := arr_of e0
  have e1 := arr_of e1
  subst e0
  subst e1
  clear hA0 hval0
  refine (hm cs A c q1 q2 v3 ws AW cw q5 q6 its AI ci g1 x B cb W g2 g3 g5 g7 g4 hN hcb hCx).mono fun e W' ⟨he, bel⟩ => ?_
  subst he
  exact ⟨_, rfl, _, _, _, [], _, [], hW', trodAll_mk1 (shut_bool Try.underlying4 _), (trodAll_cons_mk (Below.trod laidOut (by kernel_rfl) (of_decide_eq_true (by kernel_rfl)) k0 bel lt0) (trodAll_cons_mk (Below.trod laidOut (by kernel_rfl) (of_decide_eq_true (by kernel_rfl)) k1 bel lt1) trodAll_mk0)), rfl, bel.frame _, fun h => by cases h⟩

theorem over (hm : MomLaw) : Rows.placeMomentsRow.holds Try.pinned (OpenSpec.ofChange Rows.placeMomentsSpec) :=
  OpenClaim.holds_of_wide 3 Try.f3 rfl rfl rfl rfl rfl rfl rfl ⟨rfl, rfl, rfl, rfl, rfl⟩ rfl rfl rfl rfl rfl (by kernel_rfl) Try.func3 (by kernel_rfl)
    (of_decide_eq_true (by kernel_rfl)) (by unfold Func.isWrapper; first | (rw [if_pos (by decide +kernel)]; kernel_rfl) | (rw [if_neg (by decide +kernel)]; exact ⟨rfl, rfl⟩))
    (fun os started H enc _ => lifted hm os started H enc)
end Go.Proofs.Ytgnifglolbfamaa.placeMoments
