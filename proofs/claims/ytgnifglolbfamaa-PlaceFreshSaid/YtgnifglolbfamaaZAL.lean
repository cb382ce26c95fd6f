/- Texts of the claim, merged in build order: QDX, QDY. -/
import Derived.Test.YtgnifglolbfamaaZAK
import Derived.Test.YtgnifglolbfamaaZAG
import Derived.Deep.CutBlock
/- The walk of layout.add. -/
set_option linter.unusedVariables false
set_option linter.unusedSimpArgs false
namespace Go.Proofs.Ytgnifglolbfamaa.D
open Go.RowKit Go.Proofs.YtgnifglolbfamaaW.PrintWords

theorem below_lower {B B' : Nat} {w w' : World} (h : Below B w w') (hb : B' ≤ B) : Below B' w w' := ⟨h.os, h.tape, h.output, h.size, fun k hk => h.block k (by omega)⟩
theorem setCells_swap (b o : Nat) (v : Value) (g : Nat) (h : b ≠ g) : ∀ (l : List Value) (m : Nat) (w : World), (w.setCell ⟨b, o, none⟩ v).setCells g m l = (w.setCells g m l).setCell ⟨b, o, none⟩ v
  | [], m, w => rfl
  | u :: l, m, w => by
    show ((w.setCell ⟨b, o, none⟩ v).setCell ⟨g, m, none⟩ u).setCells g (m + 1) l = ((w.setCell ⟨g, m, none⟩ u).setCells g (m + 1) l).setCell ⟨b, o, none⟩ v
    rw [setCell_comm w ⟨b, o, none⟩ ⟨g, m, none⟩ v u h, setCells_swap b o v g h l (m + 1) _]

theorem below_lower3 {base : Nat} {w wr w' : World} (hbase : base ≤ w.heap.size) (h : Below base w wr) (k : Below wr.heap.size wr w') : Below base w w' := below_then h (Nat.le_trans hbase h.size) k
/-- A layout in memory; f: whose a block is (8 i + k: place (k, i)'s; 7: no place's). -/
def mp (L : Nat → Nat → List TX) : Nat → Nat → List Ex := fun k i => (L k i).map exT
def LayF (w : World) (base G : Nat) (cs : List Cp) (L : Nat → Nat → List Ex) (f : Nat → Nat) : Prop :=
  ∃ LT, mp LT = L ∧ ∃ S N T U Pl nb cap junk V, LayIn w base G cs LT S N T U Pl nb cap junk V f
theorem LayF.below {w w1 : World} {base G : Nat} {cs : List Cp} {L : Nat → Nat → List Ex} {f : Nat → Nat} (h : LayF w base G cs L f) (hb : Below w.heap.size w w1) : LayF w1 base G cs L f := by
  obtain ⟨LT, hLT, S, N, T, U, Pl, nb, cap, junk, V, h⟩ := h
  exact ⟨LT, hLT, S, N, T, U, Pl, nb, cap, junk, V, h.below hb⟩
/-- What lies behind the layout's world is no place's. -/
theorem LayF.fresh {w : World} {base G : Nat} {cs : List Cp} {L : Nat → Nat → List Ex} {f : Nat → Nat} (h : LayF w base G cs L f) : LayF w base G cs L (fun b => if w.heap.size ≤ b then 7 else f b) := by
  obtain ⟨LT, hLT, S, N, T, U, Pl, nb, cap, junk, V, h⟩ := h
  refine ⟨LT, hLT, S, N, T, U, Pl, nb, cap, junk, V, h.bS, h.bN, h.bG, h.hG, h.hN, h.hS, h.hB, h.inj, fun k i hk => ?_, h.nd, h.hT⟩
  exact Kd.R_mono (Kd.R_bound (h.hL k i hk)) (fun b hb => by show (if w.heap.size ≤ b then 7 else f b) = 8 * i + k; rw [if_neg (by have := hb.2.2.1; omega)]; exact hb.1)
/-- What a call of add leaves: w ahead of it, f whose the blocks were. -/
def AddInv (base G : Nat) (cs : List Cp) (L' : Nat → Nat → List Ex) (f : Nat → Nat) (w w' : World) : Prop :=
  Below base w w' ∧ ∃ f', LayF w' base G cs L' f' ∧ (∀ b, b < w.heap.size → f' b = f b) ∧ ∀ y cells, f y = 7 → w.heap[y]? = some (.cells cells 31 (0, 0)) → w'.heap[y]? = some (.cells cells 31 (0, 0))
theorem AddInv.below {base G : Nat} {cs : List Cp} {L' : Nat → Nat → List Ex} {f : Nat → Nat} {w wr w' : World} (hbase : base ≤ w.heap.size) (h : AddInv base G cs L' f w wr) (hb : Below wr.heap.size wr w') : AddInv base G cs L' f w w' := by
  obtain ⟨h1, f', h2, h3, h4⟩ := h
  exact ⟨below_lower3 hbase h1 hb, f', h2.below hb, h3, fun y cells hy hc => blk_below (h4 y cells hy hc) hb⟩
/-- What own hands back: an expression in new memory, its blocks all different. -/
def OR (w : World) (base : Nat) (v9 : Value) (x : Ex) : Prop := ∃ t : TX, exT t = x ∧ t.v = v9 ∧ kT.R 31 w base (fun _ => True) t.v t.kids ∧ (blT t).Nodup
theorem OR_slice {w : World} {base : Nat} {v9 : Value} {x : Ex} (h : OR w base v9 x) : ∃ A c, v9 = .slice A x.f6.length c := by
  obtain ⟨t, rfl, rfl, _, _⟩ := h
  exact ⟨_, _, by rw [exT_eq]; simp only [List.length_map]; rfl⟩
def OwnR (x : Ex) (w : World) (e : Ending) (w' : World) : Prop := Below w.heap.size w w' ∧ ∃ v, e = .returned (exV x v) ∧ OR w' w.heap.size v x
theorem own_R (x : Ex) (A : Option Addr) (c : Nat) (w : World) (hN : exN x ≤ 100000000000) (hc : x.f6.length ≤ c) (hC : kEx.C w A x.f6.length x.f6) : Calls Try.prog 61 #[exV x (.slice A x.f6.length c)] w (OwnR x w) :=
  (own_deep (exN x) x A c w (Nat.le_refl _) hN hc hC).mono fun e w' ⟨h1, t, h2, h3, h4, h5⟩ => ⟨h1, t.v, h3, t, h2, rfl, h4, h5⟩
section
variable {base G : Nat} {cs : List Cp} {L : Nat → Nat → List TX} {S N : Nat} {T U : Nat → ByteArray} {Pl : Nat → Bool} {nb cap : Nat → Nat} {junk V : Nat → Nat → Value} {f : Nat → Nat}
def exCells (x : Ex) (v9 : Value) : List Value := [.int .i64 x.f0, .int .i64 x.f1, .int .i64 x.f2.f0, .int .i64 x.f2.f1, .string x.f2.f2, .bool x.f2.f3, .string x.f3, .int .i64 x.f4, .string x.f5, v9]

theorem add_done {W3 w5 W w6 : World} (h : LayIn W3 base G cs L S N T U Pl nb cap junk V f) {k i : Nat} (hv : VP cs k i) {x : Ex} {v9 : Value} {B5 n g cp : Nat} (hn : n = (L k i).length)
    (hr9 : OR w5 B5 v9 x) (hB5 : W3.heap.size ≤ B5) (hbase : base ≤ W3.heap.size) (h35 : Below W3.heap.size W3 w5) (h5W : Below w5.heap.size w5 W)
    (hR6 : kT.R 31 w6 base (fun b => (if W3.heap.size ≤ b then 8 * i + k else f b) = 8 * i + k) (.slice (some ⟨g, 0, none⟩) (n + 1) cp) (L k i ++ [zTX]))
    (hg6 : W.grownBy w6 (V k i).ownBlock) (hat : (V k i).ownBlock = some g ∨ W.heap.size ≤ g) :
    LayF ((w6.setCells g (n * 10) (exCells x v9)).setCell ⟨(adr cs G S nb k i).1, (adr cs G S nb k i).2, none⟩ (.slice (some ⟨g, 0, none⟩) (n + 1) cp)) base G cs (upd2 (mp L) k i ((L k i).map exT ++ [x])) (fun b => if W3.heap.size ≤ b then 8 * i + k else f b) ∧
      ∀ y cells, f y = 7 → W3.heap[y]? = some (.cells cells 31 (0, 0)) → ((w6.setCells g (n * 10) (exCells x v9)).setCell ⟨(adr cs G S nb k i).1, (adr cs G S nb k i).2, none⟩ (.slice (some ⟨g, 0, none⟩) (n + 1) cp)).heap[y]? = some (.cells cells 31 (0, 0)) := by
  obtain ⟨t, rfl, rfl, hr9, hndt⟩ := hr9
  have hsc : exCells (exT t) t.v = [.int .i64 t.f0, .int .i64 t.f1, .int .i64 t.f2.f0, .int .i64 t.f2.f1, .string t.f2.f2, .bool t.f2.f3, .string t.f3, .int .i64 t.f4, .string t.f5, t.v] := by rw [exT_eq]; rfl
  rw [hsc]
  have hk8 : k < 8 := by rcases hv with ⟨h | h | h, _⟩ | ⟨h, _⟩ | ⟨h, _⟩ <;> omega
  have hR0 := h.hL k i hk8
  have hown : ∀ b, (V k i).ownBlock = some b → b < W3.heap.size := Kd.R_lt hR0
  have h9 := Kd.R_mono (Kd.R_bound hr9) (ok' := fun b => B5 ≤ b ∧ b < w5.heap.size) (fun b hb => ⟨hb.2.1, hb.2.2.1⟩)
  have h9W := Kd.R_below h9 h5W
  have hs5 := h5W.size
  have h96 := Kd.R_lower (Kd.R_grown h9W hg6 (fun b hb he => by have := hown b he.symm; omega)) (Nat.le_trans hbase hB5)
  obtain ⟨hR7, hg7⟩ := R_last (y := t) hn hR6 h96 (fun b hb => ⟨if_pos (by omega), by
    rintro rfl
    rcases hat with hat | hat
    · have := hown _ hat; omega
    · omega⟩)
  have hg36 : W3.grownBy w6 (V k i).ownBlock := by
    refine ⟨hg6.os.trans (h5W.os.trans h35.os), hg6.tape.trans (h5W.tape.trans h35.tape), hg6.output.trans (h5W.output.trans h35.output), Nat.le_trans h35.size (Nat.le_trans h5W.size hg6.size), fun j hj hne => ?_⟩
    rw [hg6.block j (by have := h35.size; omega) hne, h5W.block j (by have := h35.size; omega), h35.block j hj]
  have hg37 : W3.grownBy (w6.setCells g (n * 10) ([.int .i64 t.f0, .int .i64 t.f1, .int .i64 t.f2.f0, .int .i64 t.f2.f1, .string t.f2.f2, .bool t.f2.f3, .string t.f3, .int .i64 t.f4, .string t.f5, t.v])) (V k i).ownBlock := by
    refine ⟨hg7.os.trans hg36.os, hg7.tape.trans hg36.tape, hg7.output.trans hg36.output, Nat.le_trans hg36.size hg7.size, fun j hj hne => ?_⟩
    have hjg : some j ≠ some g := by
      intro e
      injection e with e
      subst e
      rcases hat with hat | hat
      · exact hne hat.symm
      · have := h35.size; omega
    have h1 := hg7.block j (by have := hg36.size; omega) hjg
    exact h1.trans (hg36.block j hj hne)
  have hnd : ((L k i ++ [t]).flatMap blT).Nodup := by
    rw [List.flatMap_append, List.nodup_append]
    refine ⟨h.nd k i hk8, by simpa using hndt, fun a ha b hb => ?_⟩
    have h1 := (blTs_at hR0 a ha).2.2.2.1
    have hb' : b ∈ blT t := by simpa using hb
    rw [blT_eq] at hb'
    rcases List.mem_append.1 hb' with hb' | hb'
    · have hg : t.g = some b := by simpa [Option.mem_toList] using hb'
      obtain ⟨inner, ho⟩ := Kd.R_own hr9
      have := own_base ho b (by unfold TX.v; rw [svT_own]; exact hg)
      omega
    · have := (blTs_at hr9 b hb').2.2.1
      omega
  have hmp : mp (upd2 L k i (L k i ++ [t])) = upd2 (mp L) k i ((L k i).map exT ++ [exT t]) := by
    funext k' i'
    unfold mp upd2
    by_cases hc : k' = k ∧ i' = i
    · rw [if_pos hc, if_pos hc, List.map_append]; rfl
    · rw [if_neg hc, if_neg hc]
  refine ⟨⟨_, hmp, S, N, T, U, Pl, nb, cap, junk, _, h.put hv hg37 hR7 hnd⟩, fun y cells hy hc => ?_⟩
  have hk5 : k ≤ 5 := by rcases hv with ⟨h | h | h, _⟩ | ⟨h, _⟩ | ⟨h, _⟩ <;> omega
  have h1 := blk_grown hc hg37 (fun e => by have := hR0.1 y e.symm; omega)
  obtain ⟨_, _, _, t, cb, ht, hcb⟩ := h.at_ k i hv
  refine blk_far h1 (p := ⟨(adr cs G S nb k i).1, (adr cs G S nb k i).2, none⟩) (fun e => ?_) _
  have e : y = (adr cs G S nb k i).1 := e
  rw [← e, hc] at hcb
  injection hcb with hcb
  injection hcb with _ hcb
  exact ht hcb.symm
end
end Go.Proofs.Ytgnifglolbfamaa.D

/- The walk of layout.add (printed by mkadd.py). -/
set_option linter.unusedVariables false
set_option linter.unusedSimpArgs false
namespace Go.Proofs.Ytgnifglolbfamaa.D
open Go.RowKit Go.Proofs.YtgnifglolbfamaaW.PrintWords

theorem nestA_lay {w6 : World} {g n b o : Nat} {x : Ex} {v9 v : Value} {P : World → Prop} (h : P ((w6.setCells g (n * 10) (exCells x v9)).setCell ⟨b, o, none⟩ v)) : P (((((((((((w6.setCell ⟨g, n * 10, none⟩ (.int .i64 x.f0)).setCell ⟨g, n * 10 + 1, none⟩ (.int .i64 x.f1)).setCell ⟨g, n * 10 + 2, none⟩ (.int .i64 x.f2.f0)).setCell ⟨g, n * 10 + 3, none⟩ (.int .i64 x.f2.f1)).setCell ⟨g, n * 10 + 4, none⟩ (.string x.f2.f2)).setCell ⟨g, n * 10 + 5, none⟩ (.bool x.f2.f3)).setCell ⟨g, n * 10 + 6, none⟩ (.string x.f3)).setCell ⟨g, n * 10 + 7, none⟩ (.int .i64 x.f4)).setCell ⟨g, n * 10 + 8, none⟩ (.string x.f5)).setCell ⟨g, n * 10 + 9, none⟩ (v9)).setCell ⟨b, o, none⟩ v) := h
theorem nestB_lay {w6 : World} {g n b o : Nat} {x : Ex} {v9 v : Value} {P : World → Prop} (hne : b ≠ g) (h : P ((w6.setCells g (n * 10) (exCells x v9)).setCell ⟨b, o, none⟩ v)) : P (((((((((((w6.setCell ⟨b, o, none⟩ v).setCell ⟨g, n * 10, none⟩ (.int .i64 x.f0)).setCell ⟨g, n * 10 + 1, none⟩ (.int .i64 x.f1)).setCell ⟨g, n * 10 + 2, none⟩ (.int .i64 x.f2.f0)).setCell ⟨g, n * 10 + 3, none⟩ (.int .i64 x.f2.f1)).setCell ⟨g, n * 10 + 4, none⟩ (.string x.f2.f2)).setCell ⟨g, n * 10 + 5, none⟩ (.bool x.f2.f3)).setCell ⟨g, n * 10 + 6, none⟩ (.string x.f3)).setCell ⟨g, n * 10 + 7, none⟩ (.int .i64 x.f4)).setCell ⟨g, n * 10 + 8, none⟩ (.string x.f5)).setCell ⟨g, n * 10 + 9, none⟩ (v9)) := by
  rw [← setCells_swap b o v g hne] at h
  exact h
theorem nestA_below {base : Nat} {w w6 : World} {g n b o : Nat} {x : Ex} {v9 v : Value} (h : Below base w w6) (hg : base ≤ g) (hb : base ≤ b) : Below base w (((((((((((w6.setCell ⟨g, n * 10, none⟩ (.int .i64 x.f0)).setCell ⟨g, n * 10 + 1, none⟩ (.int .i64 x.f1)).setCell ⟨g, n * 10 + 2, none⟩ (.int .i64 x.f2.f0)).setCell ⟨g, n * 10 + 3, none⟩ (.int .i64 x.f2.f1)).setCell ⟨g, n * 10 + 4, none⟩ (.string x.f2.f2)).setCell ⟨g, n * 10 + 5, none⟩ (.bool x.f2.f3)).setCell ⟨g, n * 10 + 6, none⟩ (.string x.f3)).setCell ⟨g, n * 10 + 7, none⟩ (.int .i64 x.f4)).setCell ⟨g, n * 10 + 8, none⟩ (.string x.f5)).setCell ⟨g, n * 10 + 9, none⟩ (v9)).setCell ⟨b, o, none⟩ v) :=
  (((((((((((h.setCell (p := ⟨g, n * 10, none⟩) hg _).setCell (p := ⟨g, n * 10 + 1, none⟩) hg _).setCell (p := ⟨g, n * 10 + 2, none⟩) hg _).setCell (p := ⟨g, n * 10 + 3, none⟩) hg _).setCell (p := ⟨g, n * 10 + 4, none⟩) hg _).setCell (p := ⟨g, n * 10 + 5, none⟩) hg _).setCell (p := ⟨g, n * 10 + 6, none⟩) hg _).setCell (p := ⟨g, n * 10 + 7, none⟩) hg _).setCell (p := ⟨g, n * 10 + 8, none⟩) hg _).setCell (p := ⟨g, n * 10 + 9, none⟩) hg _).setCell (p := ⟨b, o, none⟩) hb _)
theorem nestB_below {base : Nat} {w w6 : World} {g n b o : Nat} {x : Ex} {v9 v : Value} (h : Below base w w6) (hg : base ≤ g) (hb : base ≤ b) : Below base w (((((((((((w6.setCell ⟨b, o, none⟩ v).setCell ⟨g, n * 10, none⟩ (.int .i64 x.f0)).setCell ⟨g, n * 10 + 1, none⟩ (.int .i64 x.f1)).setCell ⟨g, n * 10 + 2, none⟩ (.int .i64 x.f2.f0)).setCell ⟨g, n * 10 + 3, none⟩ (.int .i64 x.f2.f1)).setCell ⟨g, n * 10 + 4, none⟩ (.string x.f2.f2)).setCell ⟨g, n * 10 + 5, none⟩ (.bool x.f2.f3)).setCell ⟨g, n * 10 + 6, none⟩ (.string x.f3)).setCell ⟨g, n * 10 + 7, none⟩ (.int .i64 x.f4)).setCell ⟨g, n * 10 + 8, none⟩ (.string x.f5)).setCell ⟨g, n * 10 + 9, none⟩ (v9)) :=
  (((((((((((h.setCell (p := ⟨b, o, none⟩) hb _).setCell (p := ⟨g, n * 10, none⟩) hg _).setCell (p := ⟨g, n * 10 + 1, none⟩) hg _).setCell (p := ⟨g, n * 10 + 2, none⟩) hg _).setCell (p := ⟨g, n * 10 + 3, none⟩) hg _).setCell (p := ⟨g, n * 10 + 4, none⟩) hg _).setCell (p := ⟨g, n * 10 + 5, none⟩) hg _).setCell (p := ⟨g, n * 10 + 6, none⟩) hg _).setCell (p := ⟨g, n * 10 + 7, none⟩) hg _).setCell (p := ⟨g, n * 10 + 8, none⟩) hg _).setCell (p := ⟨g, n * 10 + 9, none⟩) hg _)

set_option maxRecDepth 100000 in
theorem lists_ix0 (W : World) : (Instr.index 136 (.agg listsV) (.int .i64 0)).run Try.prog W = .ok (.agg #[.int .i64 1, .func (.func 72) #[] #[]]) W := by kernel_rfl
set_option maxRecDepth 100000 in
theorem lists_ix1 (W : World) : (Instr.index 136 (.agg listsV) (.int .i64 1)).run Try.prog W = .ok (.agg #[.int .i64 2, .func (.func 73) #[] #[]]) W := by kernel_rfl
set_option maxRecDepth 100000 in
theorem lists_ix2 (W : World) : (Instr.index 136 (.agg listsV) (.int .i64 2)).run Try.prog W = .ok (.agg #[.int .i64 3, .func (.func 74) #[] #[]]) W := by kernel_rfl
set_option maxRecDepth 100000 in
theorem lists_ix3 (W : World) : (Instr.index 136 (.agg listsV) (.int .i64 3)).run Try.prog W = .ok (.agg #[.int .i64 4, .func (.func 75) #[] #[]]) W := by kernel_rfl
set_option maxRecDepth 100000 in
theorem lists_ix4 (W : World) : (Instr.index 136 (.agg listsV) (.int .i64 4)).run Try.prog W = .ok (.agg #[.int .i64 5, .func (.func 76) #[] #[]]) W := by kernel_rfl
set_option maxRecDepth 100000 in
theorem lists_call0 (args : Array Value) (W : World) : (callFunc 72 args).run Try.prog W = .ok (.enter 72 args) W := by kernel_rfl
set_option maxRecDepth 100000 in
theorem lists_call1 (args : Array Value) (W : World) : (callFunc 73 args).run Try.prog W = .ok (.enter 73 args) W := by kernel_rfl
set_option maxRecDepth 100000 in
theorem lists_call2 (args : Array Value) (W : World) : (callFunc 74 args).run Try.prog W = .ok (.enter 74 args) W := by kernel_rfl
set_option maxRecDepth 100000 in
theorem lists_call3 (args : Array Value) (W : World) : (callFunc 75 args).run Try.prog W = .ok (.enter 75 args) W := by kernel_rfl
set_option maxRecDepth 100000 in
theorem lists_call4 (args : Array Value) (W : World) : (callFunc 76 args).run Try.prog W = .ok (.enter 76 args) W := by kernel_rfl
theorem lists_call (j : Nat) (hj : j < 5) (args : Array Value) (W : World) : (callFunc (72 + j) args).run Try.prog W = .ok (.enter (72 + j) args) W := by
  have hc : j = 0 ∨ j = 1 ∨ j = 2 ∨ j = 3 ∨ j = 4 := by omega
  rcases hc with rfl | rfl | rfl | rfl | rfl
  · exact lists_call0 args W
  · exact lists_call1 args W
  · exact lists_call2 args W
  · exact lists_call3 args W
  · exact lists_call4 args W
theorem lists_ix (j : Nat) (hj : j < 5) (W : World) : (Instr.index 136 (.agg listsV) (.int .i64 (j : Int))).run Try.prog W = .ok (.agg #[.int .i64 ((j : Int) + 1), .func (.func (72 + j)) #[] #[]]) W := by
  have hc : j = 0 ∨ j = 1 ∨ j = 2 ∨ j = 3 ∨ j = 4 := by omega
  rcases hc with rfl | rfl | rfl | rfl | rfl
  · exact lists_ix0 W
  · exact lists_ix1 W
  · exact lists_ix2 W
  · exact lists_ix3 W
  · exact lists_ix4 W
section
variable {base G : Nat} {cs : List Cp} {L : Nat → Nat → List TX} {S N : Nat} {T U : Nat → ByteArray} {Pl : Nat → Bool} {nb cap : Nat → Nat} {junk V : Nat → Nat → Value} {f : Nat → Nat}
theorem find_any {w : World} (h : LayIn w base G cs L S N T U Pl nb cap junk V f) (j k n i : Nat) (hj : j + 1 = k) (hv : VP cs k i) (hni : k = 5 ∨ n = i) :
    Calls Try.prog (72 + j) #[.pointer (some ⟨G, 0, none⟩), .int .i64 n] w fun e w' => e = .returned (.pointer (some ⟨(adr cs G S nb k i).1, (adr cs G S nb k i).2, none⟩)) ∧ w' = w := by
  have hk : k = 1 ∨ k = 2 ∨ k = 3 ∨ k = 4 ∨ k = 5 := by rcases hv with ⟨h | h | h, _⟩ | ⟨h, _⟩ | ⟨h, _⟩ <;> omega
  rcases hk with rfl | rfl | rfl | rfl | rfl
  · obtain rfl : j = 0 := by omega
    obtain rfl : n = i := by omega
    exact find1_any h n hv
  · obtain rfl : j = 1 := by omega
    obtain rfl : n = i := by omega
    exact find2_any h n hv
  · obtain rfl : j = 2 := by omega
    obtain rfl : n = i := by omega
    exact find3_any h n hv
  · obtain rfl : j = 3 := by omega
    obtain rfl : n = i := by omega
    exact find4_any h n hv
  · obtain rfl : j = 4 := by omega
    exact find5_any h n
def AddPost (base G : Nat) (cs : List Cp) (L' : Nat → Nat → List Ex) (f : Nat → Nat) (w : World) (e : Ending) (w' : World) : Prop := e = .returned (.tuple #[]) ∧ AddInv base G cs L' f w w'

set_option maxHeartbeats 16000000 in
set_option maxRecDepth 100000 in
theorem add_in {w : World} (h : LayIn w base G cs L S N T U Pl nb cap junk V f) (k m i : Nat) (hv : VP cs k i) (hni : k = 5 ∨ m = i) (x : Ex) (A : Option Addr) (c : Nat) (hN : exN x ≤ 100000000000) (hc : x.f6.length ≤ c) (hCx : kEx.C w A x.f6.length x.f6) (hlen : (L k i).length ≤ 1000000) (hbase : base ≤ w.heap.size) :
    Calls Try.prog 43 #[.pointer (some ⟨G, 0, none⟩), .int .i64 k, .int .i64 m, exV x (.slice A x.f6.length c)] w (AddPost base G cs (upd2 (mp L) k i ((L k i).map exT ++ [x])) f w) := by
  have hk5 : 1 ≤ k ∧ k ≤ 5 := by rcases hv with ⟨h | h | h, _⟩ | ⟨h, _⟩ | ⟨h, _⟩ <;> omega
  have hx0 := below_new w (.cells #[.int .i64 x.f0, .int .i64 x.f1, .int .i64 x.f2.f0, .int .i64 x.f2.f1, .string x.f2.f2, .bool x.f2.f3, .string x.f3, .int .i64 x.f4, .string x.f5, .slice A x.f6.length c] 31)
  have hX := blk_new w (.cells #[.int .i64 x.f0, .int .i64 x.f1, .int .i64 x.f2.f0, .int .i64 x.f2.f1, .string x.f2.f2, .bool x.f2.f3, .string x.f3, .int .i64 x.f4, .string x.f5, .slice A x.f6.length c] 31)
  have hlo := listsOf_any (w.alloc (.cells #[.int .i64 x.f0, .int .i64 x.f1, .int .i64 x.f2.f0, .int .i64 x.f2.f1, .string x.f2.f2, .bool x.f2.f3, .string x.f3, .int .i64 x.f4, .string x.f5, .slice A x.f6.length c] 31))
  unfold exV
  go_enter Try.func43, Try.ntmps43
  go_wp2_with fail
  refine hlo.mono ?_
  rintro e W1 ⟨rfl, hb1⟩
  have hX := blk_below hX hb1
  have hbw := below_step hx0 hb1
  have HL := Lib.hid (h.below hbw)
  have HCX := Lib.hid (Kd.C_below hCx hbw)
  clear h hlo hCx hx0
  go_wp2_with fail
  go_loopw [12] (fun t12 wr => ∃ j : Nat, j ≤ 5 ∧ t12 = .int .i64 j ∧ ((j < k ∧ Below W1.heap.size W1 wr) ∨ (k ≤ j ∧ AddInv base G cs (upd2 (mp L) k i ((L k i).map exT ++ [x])) f w wr))) (fun t12 _ => 5 - (intOf t12).toNat)
  case atStart => exact ⟨0, by omega, rfl, Or.inl ⟨by omega, Below.refl _ _⟩⟩
  case round =>
    obtain ⟨j, hj, rfl, hO⟩ := hrel
    by_cases hlt : j < 5
    · have i1 : (0 : Int) ≤ (j : Int) := by omega
      have i2 : (j : Int) < 5 := by omega
      have hix := lists_ix j hlt
      have hcf := lists_call j hlt
      have HF := Lib.hid (show 72 + j = 72 + j from rfl)
      by_cases hjk : j + 1 = k
      · have dk : ((j : Int) + 1 == (k : Int)) = true := by rw [beq_iff_eq]; omega
        obtain ⟨_, hB⟩ | ⟨h, _⟩ := hO
        · have HFIND := Lib.hid (fun (W3 : World) (h : LayIn W3 base G cs L S N T U Pl nb cap junk V f) => find_any h j k m i hjk hv hni)
          generalize 72 + j = F at *
          have HJK := Lib.hid hjk
          go_upto_block 1 with fail
          go_cut [9, 10, 12] from 12 to 34 (fun t9 t10 t12 wx => t12 = .int .i64 (j : Int) ∧ Hid (AddInv base G cs (upd2 (mp L) k i ((L k i).map exT ++ [x])) f w wx))
          case first =>
            have hb3 := below_new wr (.cells #[.int .i64 ((j : Int) + 1), .func (.func F) #[] #[]] 135)
            have hB3 := below_step hB hb3
            have hL3 := Lib.hid (LayIn.below HL.out hB3)
            have hX3 := blk_below hX hB3
            have hbs3 := Nat.le_trans hbase (below_step hbw hB3).size
            go_wp2_with fail
            generalize wr.alloc (.cells #[.int .i64 ((j : Int) + 1), .func (.func F) #[] #[]] 135) = W3 at *
            refine (HFIND.out W3 hL3.out).mono ?_
            rintro e W4 ⟨rfl, rfl⟩
            have hk8 : k < 8 := by omega
            have hat := hL3.out.at_ k i hv
            obtain ⟨A5, c5, hV5⟩ := Kd.R_slice (hL3.out.hL k i hk8)
            have hR5 := hL3.out.hL k i hk8
            rw [hV5] at hat hR5
            have HP2 := Lib.hid (fun (W3 w5 W w6 : World) (h : LayIn W3 base G cs L S N T U Pl nb cap junk V f) => @add_done base G cs L S N T U Pl nb cap junk V f W3 w5 W w6 h k i hv x)
            obtain ⟨hat1, hat2, hat3, tb, cb, hat4, hat5⟩ := hat
            rw [hV5] at HP2
            obtain ⟨b, hb⟩ : ∃ b, b = (adr cs G S nb k i).1 := ⟨_, rfl⟩
            obtain ⟨o, ho⟩ : ∃ o, o = (adr cs G S nb k i).2 := ⟨_, rfl⟩
            rw [← hb, ← ho] at hat1 hat2 HP2 ⊢
            rw [← hb] at hat3 hat5
            have hR5 := Kd.R_mono (Kd.R_bound hR5) (ok' := fun b => (if W4.heap.size ≤ b then 8 * i + k else f b) = 8 * i + k) (fun b hb => by show (if W4.heap.size ≤ b then 8 * i + k else f b) = 8 * i + k; rw [if_neg (by have := hb.2.2.1; omega)]; exact hb.1)
            have HNB := Lib.hid (Kd.R_ne hR5 hat5 (fun h => hat4 h.symm))
            have hbs := blk_lt hat5
            have i7 : ((L k i).length : Int) < (((L k i).length + 1 : Nat) : Int) := by omega
            have i0 : (0 : Int) ≤ ((L k i).length : Int) := by omega
            have i8 : ((L k i).length : Int) < ((L k i).length : Int) + 1 := by omega
            have hle : ((L k i).length + 1) * 120 ≤ 140737488355328 := by omega
            generalize hxs : L k i = xs at *
            generalize hnn : xs.length = n at *
            have HR5 := Lib.hid hR5
            have HFR := Lib.hid (show ∀ b, W4.heap.size ≤ b → (if W4.heap.size ≤ b then 8 * i + k else f b) = 8 * i + k from fun b hb => if_pos hb)
            have HLE := Lib.hid hle
            have HNN := Lib.hid hnn.symm
            have HXS := Lib.hid hxs
            have HB5 := Lib.hid hat5
            have HTB := Lib.hid hat4
            have HBB := Lib.hid (And.intro hb ho)
            have HB3 := Lib.hid hB3
            have HBS := Lib.hid hbs3
            have HBA := Lib.hid hat3
            have HJK := Lib.hid hjk
            have HBW3 := Lib.hid (below_step hbw hB3)
            have HWS := Lib.hid (below_step hbw hB3).size
            have HBW := Lib.hid (below_lower (below_step hbw hB3) hbase)
            have HCX3 := Lib.hid (Kd.C_below HCX.out HB3.out)
            have HOWN := Lib.hid (fun (W : World) (hb : Below W4.heap.size W4 W) => own_R x A c W hN hc (Kd.C_below HCX3.out hb))
            clear hR5 hle hnn hxs hat5 hat4 hb ho hV5 hB3 hat3 hbs hbs3 hb3 hix hjk hB
            have x0 := (blk_cell hX3 0).trans rfl; have x1 := (blk_cell hX3 1).trans rfl; have x2 := (blk_cell hX3 2).trans rfl; have x3 := (blk_cell hX3 3).trans rfl; have x4 := (blk_cell hX3 4).trans rfl; have x5 := (blk_cell hX3 5).trans rfl; have x6 := (blk_cell hX3 6).trans rfl; have x7 := (blk_cell hX3 7).trans rfl; have x8 := (blk_cell hX3 8).trans rfl; have x9 := (blk_cell hX3 9).trans rfl
            unfold OwnR exV at HOWN
            go_wp2_with fail
            have hat1z := pw_cell_below (below_new W4 (.cells #[.int .i64 0, .int .i64 0, .int .i64 0, .int .i64 0, .string ⟨#[]⟩, .bool false, .string ⟨#[]⟩, .int .i64 0, .string ⟨#[]⟩, .slice none 0 0] 31)) hat1
            have xz0 := pw_cell_below (below_new W4 (.cells #[.int .i64 0, .int .i64 0, .int .i64 0, .int .i64 0, .string ⟨#[]⟩, .bool false, .string ⟨#[]⟩, .int .i64 0, .string ⟨#[]⟩, .slice none 0 0] 31)) x0
            have xz1 := pw_cell_below (below_new W4 (.cells #[.int .i64 0, .int .i64 0, .int .i64 0, .int .i64 0, .string ⟨#[]⟩, .bool false, .string ⟨#[]⟩, .int .i64 0, .string ⟨#[]⟩, .slice none 0 0] 31)) x1
            have xz2 := pw_cell_below (below_new W4 (.cells #[.int .i64 0, .int .i64 0, .int .i64 0, .int .i64 0, .string ⟨#[]⟩, .bool false, .string ⟨#[]⟩, .int .i64 0, .string ⟨#[]⟩, .slice none 0 0] 31)) x2
            have xz3 := pw_cell_below (below_new W4 (.cells #[.int .i64 0, .int .i64 0, .int .i64 0, .int .i64 0, .string ⟨#[]⟩, .bool false, .string ⟨#[]⟩, .int .i64 0, .string ⟨#[]⟩, .slice none 0 0] 31)) x3
            have xz4 := pw_cell_below (below_new W4 (.cells #[.int .i64 0, .int .i64 0, .int .i64 0, .int .i64 0, .string ⟨#[]⟩, .bool false, .string ⟨#[]⟩, .int .i64 0, .string ⟨#[]⟩, .slice none 0 0] 31)) x4
            have xz5 := pw_cell_below (below_new W4 (.cells #[.int .i64 0, .int .i64 0, .int .i64 0, .int .i64 0, .string ⟨#[]⟩, .bool false, .string ⟨#[]⟩, .int .i64 0, .string ⟨#[]⟩, .slice none 0 0] 31)) x5
            have xz6 := pw_cell_below (below_new W4 (.cells #[.int .i64 0, .int .i64 0, .int .i64 0, .int .i64 0, .string ⟨#[]⟩, .bool false, .string ⟨#[]⟩, .int .i64 0, .string ⟨#[]⟩, .slice none 0 0] 31)) x6
            have xz7 := pw_cell_below (below_new W4 (.cells #[.int .i64 0, .int .i64 0, .int .i64 0, .int .i64 0, .string ⟨#[]⟩, .bool false, .string ⟨#[]⟩, .int .i64 0, .string ⟨#[]⟩, .slice none 0 0] 31)) x7
            have xz8 := pw_cell_below (below_new W4 (.cells #[.int .i64 0, .int .i64 0, .int .i64 0, .int .i64 0, .string ⟨#[]⟩, .bool false, .string ⟨#[]⟩, .int .i64 0, .string ⟨#[]⟩, .slice none 0 0] 31)) x8
            have xz9 := pw_cell_below (below_new W4 (.cells #[.int .i64 0, .int .i64 0, .int .i64 0, .int .i64 0, .string ⟨#[]⟩, .bool false, .string ⟨#[]⟩, .int .i64 0, .string ⟨#[]⟩, .slice none 0 0] 31)) x9
            have HKEPT := Lib.hid (show ∀ (W : World), LayF W base G cs (upd2 (mp L) k i (xs.map exT ++ [x])) (fun b => if W4.heap.size ≤ b then 8 * i + k else f b) ∧ (∀ y cells, f y = 7 → W4.heap[y]? = some (.cells cells 31 (0, 0)) → W.heap[y]? = some (.cells cells 31 (0, 0))) → ∃ f', LayF W base G cs (upd2 (mp L) k i (xs.map exT ++ [x])) f' ∧ (∀ b, b < w.heap.size → f' b = f b) ∧ ∀ y cells, f y = 7 → w.heap[y]? = some (.cells cells 31 (0, 0)) → W.heap[y]? = some (.cells cells 31 (0, 0)) from
                fun W hW => ⟨_, hW.1, fun b hb => if_neg (by have := HWS.out; omega), fun y cells hy hc => hW.2 y cells hy (blk_below hc HBW3.out)⟩)
            go_region_law (first | (go_simp; go_at_call 61; refine (HOWN.out _ (by first | exact below_drew (Below.refl _ _) | exact below_drew (below_new _ _) | exact below_new _ _)).mono ?_; rintro e w5 ⟨hb5, v9, rfl, hr9⟩; have hbk : Below W4.heap.size W4 w5 := (by first | exact below_step (below_drew (Below.refl _ _)) hb5 | exact below_step (below_drew (below_new _ _)) hb5 | exact below_step (below_new _ _) hb5); obtain ⟨A9, c9, rfl⟩ := OR_slice hr9; have HR9 := Lib.hid hr9; have hat5 := pw_cell_below hbk hat1; have hat5z := pw_cell_below (below_step hbk (below_new _ (.cells #[.int .i64 0, .int .i64 0, .int .i64 0, .int .i64 0, .string ⟨#[]⟩, .bool false, .string ⟨#[]⟩, .int .i64 0, .string ⟨#[]⟩, .slice none 0 0] 31))) hat1) | (refine step_ex (w0 := W4) base (by rfl) _ _ (by rfl) _ xs n HNN.out _ (by first | exact blk_new _ _ | exact blk_below (blk_new _ _) hb5 | exact blk_below (blk_drew (blk_new _ _)) hb5) _ (fun j hj => HFR.out j (by first | exact Nat.le_trans hbk.size hj | exact Nat.le_trans (below_step hbk (below_new _ _)).size hj)) (by rfl) (by rfl) (by first | exact Kd.R_below HR5.out hbk | exact Kd.R_below HR5.out (below_step hbk (below_new _ _))) (by first | exact below_lower hbk HBS.out | exact below_lower (below_step hbk (below_new _ _)) HBS.out) (by first | exact Nat.le_trans HBS.out hbk.size | exact Nat.le_trans HBS.out (below_step hbk (below_new _ _)).size) (by have := HLE.out; have := HNN.out; omega) ?_; intro g cp w6 hR6 hB6 hg6 hat6; have HR6 := Lib.hid hR6; have HG6 := Lib.hid hg6; have HA6 := Lib.hid hat6; obtain ⟨cur, hcur, hbg, hokg, hcells⟩ := R_last_cells HNN.out hR6; have HBG := Lib.hid hbg; have hfz := blk_frozen hcur; obtain ⟨s0, t0⟩ := hcells 0 (by decide); obtain ⟨s1, t1⟩ := hcells 1 (by decide); obtain ⟨s2, t2⟩ := hcells 2 (by decide); obtain ⟨s3, t3⟩ := hcells 3 (by decide); obtain ⟨s4, t4⟩ := hcells 4 (by decide); obtain ⟨s5, t5⟩ := hcells 5 (by decide); obtain ⟨s6, t6⟩ := hcells 6 (by decide); obtain ⟨s7, t7⟩ := hcells 7 (by decide); obtain ⟨s8, t8⟩ := hcells 8 (by decide); obtain ⟨s9, t9⟩ := hcells 9 (by decide); rw [Nat.add_zero] at t0; have hbk6 : ∀ cells, W4.heap[b]? = some cells → w6.heap[b]? = some cells := (fun cells hc => by first | exact blk_grown (blk_below hc hbk) hg6 HNB.out | exact blk_grown (blk_below hc (below_step hbk (below_new _ _))) hg6 HNB.out); have hbq := hbk6 _ HB5.out; have hbc : w6.cell? ⟨b, o, none⟩ = some (.slice A5 n c5) := ((World.cell?_of_block (w := W4) (a := ⟨b, o, none⟩) (hbq.trans HB5.out.symm)).trans hat1); have hbf : w6.frozen? ⟨b, o, none⟩ = false := (blk_frozen hbq o); have hgb : g ≠ b := (fun e => by subst e; rw [hcur] at hbq; injection hbq with hbq; injection hbq with _ hbq; exact HTB.out hbq.symm); have hbgn : b ≠ g := (fun e => hgb e.symm); clear hcells hR6 hg6 hat6 hokg hbq hbk6))
            all_goals
              have hD := HP2.out W4 w5 _ w6 hL3.out rfl HR9.out (by first | exact Nat.le_refl _ | exact (below_new _ _).size) HBS.out hbk (by first | exact Below.refl _ _ | exact below_new _ _) HR6.out HG6.out HA6.out
              have hD2 := HKEPT.out _ hD
              have hB6' := HBW.out.trans hB6
              clear hD hat1 hat2 hat1z hat5 hat5z x0 x1 x2 x3 x4 x5 x6 x7 x8 x9 xz0 xz1 xz2 xz3 xz4 xz5 xz6 xz7 xz8 xz9 t0 t1 t2 t3 t4 t5 t6 t7 t8 t9 hbc hbf hfz hcur HP2 HR6 HG6 HR9 HOWN
              have hcomm : ∀ (W : World) (j : Nat) (u v : Value), (W.setCell ⟨b, o, none⟩ u).setCell ⟨g, j, none⟩ v = (W.setCell ⟨g, j, none⟩ v).setCell ⟨b, o, none⟩ u := fun W j u v => setCell_comm W ⟨b, o, none⟩ ⟨g, j, none⟩ u v hbgn
              try simp only [hcomm]
              clear hcomm
              have HD := Lib.hid (And.intro (@nestA_below base w w6 g n b o x (.slice A9 x.f6.length c9) (.slice (some ⟨g, 0, none⟩) (n + 1) cp) hB6' HBG.out HBA.out) (nestA_lay (P := fun W => ∃ f', LayF W base G cs (upd2 (mp L) k i (xs.map exT ++ [x])) f' ∧ (∀ b, b < w.heap.size → f' b = f b) ∧ ∀ y cells, f y = 7 → w.heap[y]? = some (.cells cells 31 (0, 0)) → W.heap[y]? = some (.cells cells 31 (0, 0))) hD2))
              clear hD2 hB6 hB6'
              generalize (((((((((((w6.setCell ⟨g, n * 10, none⟩ (.int .i64 x.f0)).setCell ⟨g, n * 10 + 1, none⟩ (.int .i64 x.f1)).setCell ⟨g, n * 10 + 2, none⟩ (.int .i64 x.f2.f0)).setCell ⟨g, n * 10 + 3, none⟩ (.int .i64 x.f2.f1)).setCell ⟨g, n * 10 + 4, none⟩ (.string x.f2.f2)).setCell ⟨g, n * 10 + 5, none⟩ (.bool x.f2.f3)).setCell ⟨g, n * 10 + 6, none⟩ (.string x.f3)).setCell ⟨g, n * 10 + 7, none⟩ (.int .i64 x.f4)).setCell ⟨g, n * 10 + 8, none⟩ (.string x.f5)).setCell ⟨g, n * 10 + 9, none⟩ (.slice A9 x.f6.length c9)).setCell ⟨b, o, none⟩ (.slice (some ⟨g, 0, none⟩) (n + 1) cp)) = WF at HD ⊢
              go_wp2_with fail
              go_meet
              first
              | exact ⟨rfl, HD⟩
              | (rw [HXS.out]; exact ⟨rfl, HD⟩)
            skip
          case rest =>
            obtain ⟨rfl, HD⟩ := hcut
            go_wp2_with fail
            go_roundw
            case rel => exact ⟨j + 1, by omega, by go_num, Or.inr ⟨by have := HJK.out; omega, HD.out⟩⟩
            case measure => simp [intOf]; omega
        · omega
      · have dk : ((j : Int) + 1 == (k : Int)) = false := by rw [beq_eq_false_iff_ne]; omega
        generalize 72 + j = F at *
        have hb3 := below_new wr (.cells #[.int .i64 ((j : Int) + 1), .func (.func F) #[] #[]] 135)
        have hO3 : (j + 1 < k ∧ Below W1.heap.size W1 (wr.alloc (.cells #[.int .i64 ((j : Int) + 1), .func (.func F) #[] #[]] 135))) ∨ (k ≤ j + 1 ∧ AddInv base G cs (upd2 (mp L) k i ((L k i).map exT ++ [x])) f w (wr.alloc (.cells #[.int .i64 ((j : Int) + 1), .func (.func F) #[] #[]] 135))) := by
          rcases hO with ⟨h1, h2⟩ | ⟨h1, h2⟩
          · exact Or.inl ⟨by omega, below_step h2 hb3⟩
          · exact Or.inr ⟨by omega, h2.below hbase hb3⟩
        have HO3 := Lib.hid hO3
        clear hO3
        go_wp2_with fail
        go_roundw
        case rel => exact ⟨j + 1, by omega, by go_num, HO3.out⟩
        case measure => simp [intOf]; omega
    · obtain rfl : j = 5 := by omega
      rcases hO with ⟨h, _⟩ | ⟨_, hL⟩
      · omega
      · go_wp2_with fail
        refine bodyPost_ret (results_none rfl _ _ _) rfl ?_
        exact ⟨rfl, hL⟩
end
theorem add_any {base G : Nat} {cs : List Cp} {L : Nat → Nat → List Ex} {w : World} {f : Nat → Nat} (h : LayF w base G cs L f) (k n : Nat) (hv : VP cs k (plI k n)) (hni : k = 5 ∨ n = plI k n) (x : Ex) (A : Option Addr) (c : Nat) (hN : exN x ≤ 100000000000) (hc : x.f6.length ≤ c) (hCx : kEx.C w A x.f6.length x.f6) (hlen : (L k (plI k n)).length ≤ 1000000) (hbase : base ≤ w.heap.size) :
    Calls Try.prog 43 #[.pointer (some ⟨G, 0, none⟩), .int .i64 k, .int .i64 n, exV x (.slice A x.f6.length c)] w (AddPost base G cs (upd2 L k (plI k n) (L k (plI k n) ++ [x])) f w) := by
  obtain ⟨LT, rfl, S, N, T, U, Pl, nb, cap, junk, V, h⟩ := h
  exact add_in h k n (plI k n) hv hni x A c hN hc hCx (by simpa [mp] using hlen) hbase
end Go.Proofs.Ytgnifglolbfamaa.D
