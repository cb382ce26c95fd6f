/- The walks of place.listsOf, of its functions, and of layout.add. -/
import Derived.Test.YtgnifglolbfamaaPlT
import Derived.Laws.EntriesVeiled
set_option linter.unusedVariables false
set_option linter.unusedSimpArgs false
namespace Go.Proofs.Ytgnifglolbfamaa
open Go.RowKit Go.Proofs.YtgnifglolbfamaaW.PrintWords

def listsV : Array Value := #[.int .i64 1, .func (.func 72) #[] #[], .int .i64 2, .func (.func 73) #[] #[], .int .i64 3, .func (.func 74) #[] #[], .int .i64 4, .func (.func 75) #[] #[], .int .i64 5, .func (.func 76) #[] #[]]
set_option maxHeartbeats 2000000 in
set_option maxRecDepth 100000 in
theorem listsOf_any (w : World) : Calls Try.prog 60 #[] w fun e w' => e = .returned (.agg listsV) ∧ Below w.heap.size w w' := by
  go_enter Try.func60, Try.ntmps60
  go_wp2_with fail
  refine bodyPost_ret (results_cell_row rfl _ _ w.heap.size 136 listsV (0, 0) _ rfl (blk_new w _) Try.underlying136 rfl (by kernel_rfl)) rfl ?_
  exact ⟨rfl, below_new _ _⟩
section
variable {w : World} {base G : Nat} {cs : List Cp} {L : Nat → Nat → List Ex} {S N : Nat} {T U : Nat → ByteArray} {Pl : Nat → Bool} {nb cap : Nat → Nat} {junk V : Nat → Nat → Value} {f : Nat → Nat}
set_option maxHeartbeats 2000000 in
set_option maxRecDepth 100000 in
theorem find1_any (h : LayIn w base G cs L S N T U Pl nb cap junk V f) (i : Nat) (hv : VP cs 1 i) :
    Calls Try.prog 72 #[.pointer (some ⟨G, 0, none⟩), .int .i64 i] w fun e w' => e = .returned (.pointer (some ⟨(adr cs G S nb 1 i).1, (adr cs G S nb 1 i).2, none⟩)) ∧ w' = w := by
  have hi : i < stg cs := by rcases hv with ⟨_, h⟩ | ⟨h, _⟩ | ⟨h, _⟩ <;> first | exact h | (exact absurd h (by decide))
  have i1 : (0 : Int) ≤ (i : Int) := by omega
  have i2 : (i : Int) < (stg cs : Int) := by omega
  have g0 := (blk_cell h.hG 0).trans rfl
  go_enter Try.func72, Try.ntmps72
  go_wp2_with fail
  go_ret
  exact ⟨rfl, rfl⟩
set_option maxHeartbeats 2000000 in
set_option maxRecDepth 100000 in
theorem find2_any (h : LayIn w base G cs L S N T U Pl nb cap junk V f) (i : Nat) (hv : VP cs 2 i) :
    Calls Try.prog 73 #[.pointer (some ⟨G, 0, none⟩), .int .i64 i] w fun e w' => e = .returned (.pointer (some ⟨(adr cs G S nb 2 i).1, (adr cs G S nb 2 i).2, none⟩)) ∧ w' = w := by
  have hi : i < stg cs := by rcases hv with ⟨_, h⟩ | ⟨h, _⟩ | ⟨h, _⟩ <;> first | exact h | (exact absurd h (by decide))
  have i1 : (0 : Int) ≤ (i : Int) := by omega
  have i2 : (i : Int) < (stg cs : Int) := by omega
  have g0 := (blk_cell h.hG 0).trans rfl
  go_enter Try.func73, Try.ntmps73
  go_wp2_with fail
  go_ret
  exact ⟨rfl, rfl⟩
set_option maxHeartbeats 2000000 in
set_option maxRecDepth 100000 in
theorem find3_any (h : LayIn w base G cs L S N T U Pl nb cap junk V f) (i : Nat) (hv : VP cs 3 i) :
    Calls Try.prog 74 #[.pointer (some ⟨G, 0, none⟩), .int .i64 i] w fun e w' => e = .returned (.pointer (some ⟨(adr cs G S nb 3 i).1, (adr cs G S nb 3 i).2, none⟩)) ∧ w' = w := by
  have hi : i < stg cs := by rcases hv with ⟨_, h⟩ | ⟨h, _⟩ | ⟨h, _⟩ <;> first | exact h | (exact absurd h (by decide))
  have i1 : (0 : Int) ≤ (i : Int) := by omega
  have i2 : (i : Int) < (stg cs : Int) := by omega
  have g0 := (blk_cell h.hG 0).trans rfl
  go_enter Try.func74, Try.ntmps74
  go_wp2_with fail
  go_ret
  exact ⟨rfl, rfl⟩
set_option maxHeartbeats 2000000 in
set_option maxRecDepth 100000 in
theorem find4_any (h : LayIn w base G cs L S N T U Pl nb cap junk V f) (i : Nat) (hv : VP cs 4 i) :
    Calls Try.prog 75 #[.pointer (some ⟨G, 0, none⟩), .int .i64 i] w fun e w' => e = .returned (.pointer (some ⟨(adr cs G S nb 4 i).1, (adr cs G S nb 4 i).2, none⟩)) ∧ w' = w := by
  have hi : i < cs.length ∧ negB cs i = true := by rcases hv with ⟨h, _⟩ | ⟨_, h⟩ | ⟨h, _⟩ <;> first | exact h | (exact absurd h (by decide))
  have i1 : (0 : Int) ≤ (i : Int) := by omega
  have i2 : (i : Int) < (cs.length : Int) := by omega
  have g0 := (blk_cell h.hG 1).trans rfl
  have n0 : w.cell? ⟨N, i, none⟩ = some (.pointer (some ⟨nb (stA cs i), (ngI cs i (stA cs i)).length * 3, none⟩)) := by
    rw [h.hN.cell hi.1]
    unfold ptrN
    rw [if_pos hi]
  have hadr : adr cs G S nb 4 i = (nb (stA cs i), (ngI cs i (stA cs i)).length * 3 + 2) := rfl
  rw [hadr]
  clear hadr hi hv
  go_enter Try.func75, Try.ntmps75
  go_wp2_with fail
  go_ret
  exact ⟨rfl, rfl⟩
set_option maxHeartbeats 2000000 in
set_option maxRecDepth 100000 in
theorem find5_any (h : LayIn w base G cs L S N T U Pl nb cap junk V f) (i : Nat) :
    Calls Try.prog 76 #[.pointer (some ⟨G, 0, none⟩), .int .i64 i] w fun e w' => e = .returned (.pointer (some ⟨(adr cs G S nb 5 i).1, (adr cs G S nb 5 i).2, none⟩)) ∧ w' = w := by
  have hadr : adr cs G S nb 5 i = (G, 2) := rfl
  rw [hadr]
  go_enter Try.func76, Try.ntmps76
  go_wp2_with fail
  go_ret
  exact ⟨rfl, rfl⟩
end
end Go.Proofs.Ytgnifglolbfamaa
