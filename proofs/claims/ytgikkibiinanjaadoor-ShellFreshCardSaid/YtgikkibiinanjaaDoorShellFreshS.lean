/-
  The law ShellFresh, as given: for every list of lines the call returns true and its argument reads as it did; its card, tied to the program's tables.
  Conditions: the tables that the row lists, tied by the given tie; nothing else.
-/
import Derived.Test.YtgikkibiinanjaaDoorCards
import Derived.Test.YtgikkibiinanjaaDoorTie
import Derived.Test.YtgikkibiinanjaaDoorFrI
import Derived.WalkKit
import Derived.ProofKit
import Derived.OpenShut
import Derived.JoinedCond
import Derived.SizedLaws
import Derived.SliceStrings
import Derived.Deep.DeepHandedRow
import Derived.Lib.LaidTab
import Derived.Stop.LaidErr
namespace Go.Proofs.YtgikkibiinanjaaDoor.shellFreshS
open Go.ChangeShapes Go.WideShapes Go.ChangeAt Go.RowKit
set_option linter.unusedVariables false

theorem own : ownKnob Tryd.prog.godebug = none := by kernel_rfl
theorem laidOut : laidOutB Tryd.prog = true := by kernel_rfl
theorem gTab : Tryd.prog.globalNamed "internal/strconv.uint64pow10" = some 1 := by kernel_rfl
theorem gTabType : (Tryd.prog.globals[1]?).map (·.type) = some 69 := by kernel_rfl
theorem cells69 : Tryd.prog.cellsOf 69 = 20 := by kernel_rfl
theorem cells63 : Tryd.prog.cellsOf 63 = 1 := by kernel_rfl
/-- What the row's list gives: the table of the powers of ten. -/
theorem table {W : World} (h : laidMetH Tryd.prog Rows.shellFreshRow.laid W) : Lib.TabIs Tryd.prog W "internal/strconv.uint64pow10" .u64 Lib.pow10Tab := by
  have h2 : laidMet Tryd.prog Rows.shellFreshRow.laid W := h
  exact Lib.tabIs_of_head (rest := []) gTab gTabType Tryd.underlying69 Tryd.underlying63 cells63 cells69 h2.tail.tail

/-- A string's length is among the weights of the list that holds it. -/
theorem weight_mem {H : Type} {P : Program} {e : TypeId} {bs : List UInt8} : ∀ {l : List (DataW H)}, (DataW.lit (.string bs)) ∈ l → bs.length ∈ DataW.weightsAll P e l
  | d :: r, h => by
    simp only [DataW.weightsAll, List.mem_append]
    rcases List.mem_cons.1 h with h | h
    · subst h; left; simp [DataW.weights]
    · exact Or.inr (weight_mem h)
theorem strs_reach {H : Type} (ss : List ByteArray) (len : Nat) (hz : (DataW.weightsEach Tryd.prog [22] [DataW.slice (H := H) (strs (ss.take len)) (strs (ss.drop len))]).all (· ≤ reachBytes) = true) (hl : len ≤ ss.length) :
    len ≤ 8796093022208 ∧ ∀ i, i < len → (ss.getD i ByteArray.empty).size ≤ 140737488355328 := by
  have hr := reachBytes_lt
  constructor
  · have h := sized_slice (P := Tryd.prog) (ts := [22]) (j := 0) (t := 22) (e := 9) hz rfl rfl Tryd.underlying22
    have hb : Tryd.prog.bytesOf 9 = 16 := by kernel_rfl
    rw [hb] at h
    have h6 : (strs (H := H) (ss.take len)).length = len := by unfold strs; simp; omega
    omega
  · intro i hi
    have h1 : (ss.getD i ByteArray.empty) ∈ ss.take len := by
      rw [List.getD_eq_getElem?_getD, List.getElem?_eq_getElem (by omega)]
      exact List.mem_take_iff_getElem.2 ⟨i, by omega, rfl⟩
    have h2 : (DataW.lit (H := H) (.string (ss.getD i ByteArray.empty).data.toList)) ∈ strs (H := H) (ss.take len) := List.mem_map.2 ⟨_, h1, rfl⟩
    have h3 := List.all_eq_true.1 hz _ (DataW.weights_mem_each (P := Tryd.prog) (ts := [22]) (j := 0) (t := 22) rfl rfl (ss.getD i ByteArray.empty).data.toList.length (by
      simp only [DataW.weights, Tryd.underlying22, List.mem_cons, List.mem_append]
      exact Or.inr (Or.inl (weight_mem h2))))
    have h5 : (ss.getD i ByteArray.empty).data.toList.length = (ss.getD i ByteArray.empty).size := by rw [Array.length_toList]; rfl
    simp only [decide_eq_true_eq] at h3
    omega

set_option maxRecDepth 100000 in
theorem contract (H : Type) (enc : TypeId × Value → H) (W : World) (base : Nat) (args : Array Value) (ds gs : List (DataW H)) (before : List MemPlace)
    (hval : ∀ (j : Nat) t v, Tryd.f3.params[j]? = some t → args[j]? = some v → Value.okWide Tryd.prog W .any base t v)
    (hW : DataW.Whole enc Tryd.prog Tryd.f3.params.toList Rows.shellFreshSpec.vars false W args.toList ds gs before) (hz0 : (DataW.weightsEach Tryd.prog (Tryd.f3.params.toList ++ Rows.shellFreshSpec.plain.varTypes Tryd.prog) (ds ++ gs)).all (· ≤ reachBytes) = true) (hL : laidMetH Tryd.prog Rows.shellFreshRow.laid W) :
    Calls Tryd.prog 3 args W fun e W' => ∃ v, e = .returned v ∧ Rows.shellFreshSpec.post enc Tryd.prog Tryd.f3 false true false false W args v W' := by
  have hW' := hW
  obtain ⟨p, q, hA0, hV, rfl, hfz, hnd⟩ := hW
  have hA : DataW.TrodAll enc Tryd.prog W 0 (fun _ => true) true Tryd.f3.params.toList args.toList ds p := hA0
  rw [Tryd.params3] at hA hval
  obtain ⟨v0, vs0, d0, ds0, p0, q0, hargs, rfl, rfl, h0, r0⟩ := trodAll_cons hA
  obtain ⟨rfl, rfl, rfl⟩ := trodAll_nil r0
  obtain rfl : args = #[v0] := by cases args; simp_all
  obtain ⟨rfl, rfl⟩ := trodVars_none hV
  obtain ⟨a0, len0, cap0, rfl⟩ := okWide_slice Tryd.underlying22 (hval 0 22 v0 rfl rfl)
  have k0 := h0
  have lt0 : ∀ x ∈ p0, x.block < W.heap.size := by obtain ⟨m, hm⟩ := k0; exact DataW.trod_lt m _ _ _ hm
  have hz1 : (DataW.weightsEach Tryd.prog [22] [d0]).all (· ≤ reachBytes) = true := hz0
  have hmain : ∃ ss : Nat → ByteArray, len0 ≤ 8796093022208 ∧ (∀ i, i < len0 → ∃ ad, a0 = some ad ∧ W.cell? (ad.add i) = some (.string (ss i))) ∧ ∀ i, i < len0 → (ss i).size ≤ 140737488355328 := by
    obtain ⟨fuel, hf⟩ := h0
    rcases open_strings Tryd.underlying22 Tryd.underlying9 (by kernel_rfl) hf with ⟨hcs, hx⟩ | ⟨a, len', cap', ss, hcs, _, hl, hm, hz, hx, hcell, hws⟩
    · simp [Value.cells] at hcs
      obtain ⟨rfl, rfl, rfl⟩ := hcs
      exact ⟨fun _ => ByteArray.empty, by omega, fun i hi => by omega, fun i hi => by omega⟩
    · simp [Value.cells] at hcs
      obtain ⟨rfl, rfl, rfl⟩ := hcs
      simp only [Prod.mk.injEq] at hx
      obtain ⟨rfl, _⟩ := hx
      simp only [if_true] at hz
      obtain ⟨q1, q2⟩ := strs_reach ss len0 (by simpa using hz1) (by omega)
      exact ⟨fun i => ss.getD i ByteArray.empty, q1, fun i hi => ⟨a, rfl, hcell i (by omega)⟩, q2⟩
  obtain ⟨ss, g1, g2, g3⟩ := hmain
  clear hA0 hval
  refine (fresh_walk a0 len0 cap0 ss W g1 g2 g3 (table hL)).mono fun e W' ⟨he, bel⟩ => ?_
  subst he
  exact ⟨_, rfl, _, _, _, [], _, [], hW', trodAll_mk1 (shut_bool Tryd.underlying4 _), (trodAll_cons_mk (Below.trod laidOut (by kernel_rfl) (of_decide_eq_true (by kernel_rfl)) k0 bel lt0) trodAll_mk0), rfl, bel.frame _, fun h => by cases h⟩

/-- A table's cells. -/
def setTab (c : Array Value) : Obj → Obj
  | .cells _ t frozen => .cells c t frozen
  | o => o
/-- A world for the witness: the settled one, the three tables holding what their initialisers lay. -/
noncomputable def laidWorld (os : Os) : World :=
  { World.holding Tryd.prog os ⟨#[], #[], []⟩ with heap := (((World.holding Tryd.prog os ⟨#[], #[], []⟩).heap.modify 1 (setTab #[.int .u64 1, .int .u64 10, .int .u64 100, .int .u64 1000, .int .u64 10000, .int .u64 100000, .int .u64 1000000, .int .u64 10000000, .int .u64 100000000, .int .u64 1000000000, .int .u64 10000000000, .int .u64 100000000000, .int .u64 1000000000000, .int .u64 10000000000000, .int .u64 100000000000000, .int .u64 1000000000000000, .int .u64 10000000000000000, .int .u64 100000000000000000, .int .u64 1000000000000000000, .int .u64 10000000000000000000])).modify 2 (setTab #[.int .u8 0, .int .u8 1, .int .u8 28, .int .u8 2, .int .u8 29, .int .u8 14, .int .u8 24, .int .u8 3, .int .u8 30, .int .u8 22, .int .u8 20, .int .u8 15, .int .u8 25, .int .u8 17, .int .u8 4, .int .u8 8, .int .u8 31, .int .u8 27, .int .u8 13, .int .u8 23, .int .u8 21, .int .u8 19, .int .u8 16, .int .u8 7, .int .u8 26, .int .u8 12, .int .u8 18, .int .u8 6, .int .u8 11, .int .u8 5, .int .u8 10, .int .u8 9])).modify 3 (setTab #[.int .u8 0, .int .u8 1, .int .u8 56, .int .u8 2, .int .u8 57, .int .u8 49, .int .u8 28, .int .u8 3, .int .u8 61, .int .u8 58, .int .u8 42, .int .u8 50, .int .u8 38, .int .u8 29, .int .u8 17, .int .u8 4, .int .u8 62, .int .u8 47, .int .u8 59, .int .u8 36, .int .u8 45, .int .u8 43, .int .u8 51, .int .u8 22, .int .u8 53, .int .u8 39, .int .u8 33, .int .u8 30, .int .u8 24, .int .u8 18, .int .u8 12, .int .u8 5, .int .u8 63, .int .u8 55, .int .u8 48, .int .u8 27, .int .u8 60, .int .u8 41, .int .u8 37, .int .u8 16, .int .u8 46, .int .u8 35, .int .u8 44, .int .u8 21, .int .u8 52, .int .u8 32, .int .u8 23, .int .u8 11, .int .u8 54, .int .u8 26, .int .u8 40, .int .u8 15, .int .u8 34, .int .u8 20, .int .u8 31, .int .u8 10, .int .u8 25, .int .u8 14, .int .u8 19, .int .u8 9, .int .u8 13, .int .u8 8, .int .u8 7, .int .u8 6]) }
set_option maxRecDepth 100000 in
theorem laid_met (os : Os) : laidMet Tryd.prog Rows.shellFreshRow.laid ((laidWorld os).forCall (fun _ _ => 0) ⟨#[], #[.slice none 0 0], []⟩).memory :=
  laidMet_of_run' 8 (by kernel_rfl) (by kernel_rfl)
theorem reads (os : Os) {H : Type} (enc : TypeId × Value → H) : ∃ places, DataW.whole enc Tryd.prog ((laidWorld os).forCall (fun _ _ => 0) ⟨#[], #[.slice none 0 0], []⟩).memory Tryd.f3.params.toList Rows.shellFreshSpec.vars false #[Value.slice none 0 0].toList 8 = some ([.nil], [], places) :=
  ⟨[], by kernel_rfl⟩

set_option maxRecDepth 100000 in
theorem lifted (os : Os) (started : os.Started) (H : Type) (enc : TypeId × Value → H) (F : Stop.Interp) :
    ReturnsInHanded {} Tryd.checked os 3 .any ((OpenSpec.ofChange Rows.shellFreshSpec).preRow enc Tryd.prog Tryd.f3 Rows.shellFreshRow.domain false Rows.shellFreshRow.laid) (((OpenSpec.ofChange Rows.shellFreshSpec).at F).post enc Tryd.prog Tryd.f3 false true false false) := by
  obtain ⟨places, hx⟩ := reads os enc
  refine returnsInHanded_of_row (C := Tryd.checked) (s := OpenSpec.ofChange Rows.shellFreshSpec) own started (by kernel_rfl) Tryd.func3
    (witness_row_at (enc := enc) (C := Tryd.checked) false (laidWorld os) #[.slice none 0 0] rfl (by kernel_rfl) (by kernel_rfl) (by kernel_rfl)
      (OpenSpec.preRow_of_cond 8 hx (by kernel_rfl) (fun k hk => by cases hk) (by kernel_rfl) (laid_met os))) ?_
  intro W base args ds gs before hval hW _ _ hz hL _ _
  exact contract H enc W base args ds gs before hval hW hz hL

theorem said : Rows.ShellFreshSaid :=
  OpenClaim.holds_of_cond 3 Tryd.f3 rfl rfl rfl rfl rfl rfl rfl ⟨rfl, rfl, rfl, rfl, rfl⟩ rfl rfl rfl rfl rfl (by kernel_rfl) Tryd.func3 (by kernel_rfl)
    (of_decide_eq_true (by kernel_rfl)) (by unfold Func.isWrapper; first | (rw [if_pos (by decide +kernel)]; kernel_rfl) | (rw [if_neg (by decide +kernel)]; exact ⟨rfl, rfl⟩))
    (fun os started H enc _ F => by rw [OpenClaim.pre_eq_preRow]; exact lifted os started H enc F)

/-- No parameter wants a stand-in; the program's own looks are off: what the card asks. -/
theorem plain (f : FuncId) (fn : Func) (hf : Tryd.pinned.checked.prog.funcNamed "refrain/refrainlaw25.ShellFresh" = some f) (hfn : Tryd.pinned.checked.prog.funcs[f]? = some fn) :
    false = Tryd.pinned.checked.prog.looks [] ∧ ∀ (j : Nat) t, fn.params[j]? = some t → Tryd.pinned.checked.prog.wantsStandIn t = false := by
  obtain rfl : f = 3 := Option.some.inj ((show Tryd.prog.funcNamed "refrain/refrainlaw25.ShellFresh" = some 3 by kernel_rfl).symm.trans hf) |>.symm
  obtain rfl : fn = Tryd.f3 := (Option.some.inj (Tryd.func3.symm.trans hfn)).symm
  refine ⟨by kernel_rfl, fun j t ht => ?_⟩
  rw [Tryd.params3] at ht
  obtain rfl : t = 22 := by simpa using Array.mem_of_getElem? ht
  exact (show Tryd.prog.wantsStandIn 22 = false by kernel_rfl)
end Go.Proofs.YtgikkibiinanjaaDoor.shellFreshS
namespace Go.Proofs.YtgikkibiinanjaaDoor
/-- The card of ShellFresh. -/
theorem shellFresh_card : Rows.ShellFreshCardSaid :=
  Claim7.holds_tied_plain_at .later [] _ _ _ _ shellFreshS.said (fun _ h => by cases h) (by kernel_rfl) (fun _ h => by cases h) shellFresh_row_tie rfl ⟨rfl, rfl⟩ (by kernel_rfl) rfl shellFreshS.plain (by kernel_rfl)
end Go.Proofs.YtgikkibiinanjaaDoor
