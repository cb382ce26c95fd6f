/- The walk of layout.add. -/
import Derived.Test.YtgnifglolbfamaaPlV
set_option linter.unusedVariables false
set_option linter.unusedSimpArgs false
namespace Go.Proofs.Ytgnifglolbfamaa
open Go.RowKit Go.Proofs.YtgnifglolbfamaaW.PrintWords

theorem below_lower {B B' : Nat} {w w' : World} (h : Below B w w') (hb : B' ≤ B) : Below B' w w' := ⟨h.os, h.tape, h.output, h.size, fun k hk => h.block k (by omega)⟩
theorem setCells_swap (b o : Nat) (v : Value) (g : Nat) (h : b ≠ g) : ∀ (l : List Value) (m : Nat) (w : World), (w.setCell ⟨b, o, none⟩ v).setCells g m l = (w.setCells g m l).setCell ⟨b, o, none⟩ v
  | [], m, w => rfl
  | u :: l, m, w => by
    show ((w.setCell ⟨b, o, none⟩ v).setCell ⟨g, m, none⟩ u).setCells g (m + 1) l = ((w.setCell ⟨g, m, none⟩ u).setCells g (m + 1) l).setCell ⟨b, o, none⟩ v
    rw [setCell_comm w ⟨b, o, none⟩ ⟨g, m, none⟩ v u h, setCells_swap b o v g h l (m + 1) _]

theorem below_lower3 {base : Nat} {w wr w' : World} (hbase : base ≤ w.heap.size) (h : Below base w wr) (k : Below wr.heap.size wr w') : Below base w w' := below_then h (Nat.le_trans hbase h.size) k
/-- A layout in memory; f: whose a block is (8 i + k: place (k, i)'s; 7: no place's). -/
def LayF (w : World) (base G : Nat) (cs : List Cp) (L : Nat → Nat → List Ex) (f : Nat → Nat) : Prop :=
  ∃ S N T U Pl nb cap junk V, LayIn w base G cs L S N T U Pl nb cap junk V f
theorem LayF.below {w w1 : World} {base G : Nat} {cs : List Cp} {L : Nat → Nat → List Ex} {f : Nat → Nat} (h : LayF w base G cs L f) (hb : Below w.heap.size w w1) : LayF w1 base G cs L f := by
  obtain ⟨S, N, T, U, Pl, nb, cap, junk, V, h⟩ := h
  exact ⟨S, N, T, U, Pl, nb, cap, junk, V, h.below hb⟩
/-- What lies behind the layout's world is no place's. -/
theorem LayF.fresh {w : World} {base G : Nat} {cs : List Cp} {L : Nat → Nat → List Ex} {f : Nat → Nat} (h : LayF w base G cs L f) : LayF w base G cs L (fun b => if w.heap.size ≤ b then 7 else f b) := by
  obtain ⟨S, N, T, U, Pl, nb, cap, junk, V, h⟩ := h
  refine ⟨S, N, T, U, Pl, nb, cap, junk, V, h.bS, h.bN, h.bG, h.hG, h.hN, h.hS, h.hB, h.inj, fun k i hk => ?_, h.hT⟩
  exact Kd.R_mono (Kd.R_bound (h.hL k i hk)) (fun b hb => by show (if w.heap.size ≤ b then 7 else f b) = 8 * i + k; rw [if_neg (by have := hb.2.2.1; omega)]; exact hb.1)
/-- What a call of add leaves: w ahead of it, f whose the blocks were. -/
def AddInv (base G : Nat) (cs : List Cp) (L' : Nat → Nat → List Ex) (f : Nat → Nat) (w w' : World) : Prop :=
  Below base w w' ∧ ∃ f', LayF w' base G cs L' f' ∧ (∀ b, b < w.heap.size → f' b = f b) ∧ ∀ y cells, f y = 7 → w.heap[y]? = some (.cells cells 31 (0, 0)) → w'.heap[y]? = some (.cells cells 31 (0, 0))
theorem AddInv.below {base G : Nat} {cs : List Cp} {L' : Nat → Nat → List Ex} {f : Nat → Nat} {w wr w' : World} (hbase : base ≤ w.heap.size) (h : AddInv base G cs L' f w wr) (hb : Below wr.heap.size wr w') : AddInv base G cs L' f w w' := by
  obtain ⟨h1, f', h2, h3, h4⟩ := h
  exact ⟨below_lower3 hbase h1 hb, f', h2.below hb, h3, fun y cells hy hc => blk_below (h4 y cells hy hc) hb⟩
section
variable {base G : Nat} {cs : List Cp} {L : Nat → Nat → List Ex} {S N : Nat} {T U : Nat → ByteArray} {Pl : Nat → Bool} {nb cap : Nat → Nat} {junk V : Nat → Nat → Value} {f : Nat → Nat}
def exCells (x : Ex) (v9 : Value) : List Value := [.int .i64 x.f0, .int .i64 x.f1, .int .i64 x.f2.f0, .int .i64 x.f2.f1, .string x.f2.f2, .bool x.f2.f3, .string x.f3, .int .i64 x.f4, .string x.f5, v9]

theorem add_done {W3 w5 W w6 : World} (h : LayIn W3 base G cs L S N T U Pl nb cap junk V f) {k i : Nat} (hv : VP cs k i) {x : Ex} {v9 : Value} {B5 n g cp : Nat} (hn : n = (L k i).length)
    (hr9 : kEx.R 31 w5 B5 (fun _ => True) v9 x.f6) (hB5 : W3.heap.size ≤ B5) (hbase : base ≤ W3.heap.size) (h35 : Below W3.heap.size W3 w5) (h5W : Below w5.heap.size w5 W)
    (hR6 : kEx.R 31 w6 base (fun b => (if W3.heap.size ≤ b then 8 * i + k else f b) = 8 * i + k) (.slice (some ⟨g, 0, none⟩) (n + 1) cp) (L k i ++ [zEx]))
    (hg6 : W.grownBy w6 (V k i).ownBlock) (hat : (V k i).ownBlock = some g ∨ W.heap.size ≤ g) :
    LayF ((w6.setCells g (n * 10) (exCells x v9)).setCell ⟨(adr cs G S nb k i).1, (adr cs G S nb k i).2, none⟩ (.slice (some ⟨g, 0, none⟩) (n + 1) cp)) base G cs (upd2 L k i (L k i ++ [x])) (fun b => if W3.heap.size ≤ b then 8 * i + k else f b) ∧
      ∀ y cells, f y = 7 → W3.heap[y]? = some (.cells cells 31 (0, 0)) → ((w6.setCells g (n * 10) (exCells x v9)).setCell ⟨(adr cs G S nb k i).1, (adr cs G S nb k i).2, none⟩ (.slice (some ⟨g, 0, none⟩) (n + 1) cp)).heap[y]? = some (.cells cells 31 (0, 0)) := by
  have hk8 : k < 8 := by rcases hv with ⟨h | h | h, _⟩ | ⟨h, _⟩ | ⟨h, _⟩ <;> omega
  have hR0 := h.hL k i hk8
  have hown : ∀ b, (V k i).ownBlock = some b → b < W3.heap.size := Kd.R_lt hR0
  have h9 := Kd.R_mono (Kd.R_bound hr9) (ok' := fun b => B5 ≤ b ∧ b < w5.heap.size) (fun b hb => ⟨hb.2.1, hb.2.2.1⟩)
  have h9W := Kd.R_below h9 h5W
  have hs5 := h5W.size
  have h96 := Kd.R_lower (Kd.R_grown h9W hg6 (fun b hb he => by have := hown b he.symm; omega)) (Nat.le_trans hbase hB5)
  obtain ⟨hR7, hg7⟩ := R_last (y := x) hn hR6 h96 (fun b hb => ⟨if_pos (by omega), by
    rintro rfl
    rcases hat with hat | hat
    · have := hown _ hat; omega
    · omega⟩)
  have hg36 : W3.grownBy w6 (V k i).ownBlock := by
    refine ⟨hg6.os.trans (h5W.os.trans h35.os), hg6.tape.trans (h5W.tape.trans h35.tape), hg6.output.trans (h5W.output.trans h35.output), Nat.le_trans h35.size (Nat.le_trans h5W.size hg6.size), fun j hj hne => ?_⟩
    rw [hg6.block j (by have := h35.size; omega) hne, h5W.block j (by have := h35.size; omega), h35.block j hj]
  have hg37 : W3.grownBy (w6.setCells g (n * 10) (exCells x v9)) (V k i).ownBlock := by
    refine ⟨hg7.os.trans hg36.os, hg7.tape.trans hg36.tape, hg7.output.trans hg36.output, Nat.le_trans hg36.size hg7.size, fun j hj hne => ?_⟩
    have hjg : some j ≠ some g := by
      intro e
      injection e with e
      subst e
      rcases hat with hat | hat
      · exact hne hat.symm
      · have := h35.size; omega
    have h1 := hg7.block j (by have := hg36.size; omega) hjg
    exact h1.trans (hg36.block j hj hne)
  refine ⟨⟨S, N, T, U, Pl, nb, cap, junk, _, h.put hv hg37 hR7⟩, fun y cells hy hc => ?_⟩
  have hk5 : k ≤ 5 := by rcases hv with ⟨h | h | h, _⟩ | ⟨h, _⟩ | ⟨h, _⟩ <;> omega
  have h1 := blk_grown hc hg37 (fun e => by have := hR0.1 y e.symm; omega)
  obtain ⟨_, _, _, t, cb, ht, hcb⟩ := h.at_ k i hv
  refine blk_far h1 (p := ⟨(adr cs G S nb k i).1, (adr cs G S nb k i).2, none⟩) (fun e => ?_) _
  have e : y = (adr cs G S nb k i).1 := e
  rw [← e, hc] at hcb
  injection hcb with hcb
  injection hcb with _ hcb
  exact ht hcb.symm
end
end Go.Proofs.Ytgnifglolbfamaa
