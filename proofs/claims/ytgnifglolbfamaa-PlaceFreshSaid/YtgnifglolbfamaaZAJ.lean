/- Texts of the claim, merged in build order: PlY, QT. -/
import Derived.Test.YtgnifglolbfamaaZAG
import Derived.Test.YtgnifglolbfamaaZAH
import Derived.Deep.CutBlock
import Derived.Test.YtgnifglolbfamaaZAD
/- The walk of layout.add (printed by mkadd.py). -/
set_option linter.unusedVariables false
set_option linter.unusedSimpArgs false
namespace Go.Proofs.Ytgnifglolbfamaa
open Go.RowKit Go.Proofs.YtgnifglolbfamaaW.PrintWords

theorem nestA_lay {w6 : World} {g n b o : Nat} {x : Ex} {v9 v : Value} {P : World → Prop} (h : P ((w6.setCells g (n * 10) (exCells x v9)).setCell ⟨b, o, none⟩ v)) : P (((((((((((w6.setCell ⟨g, n * 10, none⟩ (.int .i64 x.f0)).setCell ⟨g, n * 10 + 1, none⟩ (.int .i64 x.f1)).setCell ⟨g, n * 10 + 2, none⟩ (.int .i64 x.f2.f0)).setCell ⟨g, n * 10 + 3, none⟩ (.int .i64 x.f2.f1)).setCell ⟨g, n * 10 + 4, none⟩ (.string x.f2.f2)).setCell ⟨g, n * 10 + 5, none⟩ (.bool x.f2.f3)).setCell ⟨g, n * 10 + 6, none⟩ (.string x.f3)).setCell ⟨g, n * 10 + 7, none⟩ (.int .i64 x.f4)).setCell ⟨g, n * 10 + 8, none⟩ (.string x.f5)).setCell ⟨g, n * 10 + 9, none⟩ (v9)).setCell ⟨b, o, none⟩ v) := h
theorem nestB_lay {w6 : World} {g n b o : Nat} {x : Ex} {v9 v : Value} {P : World → Prop} (hne : b ≠ g) (h : P ((w6.setCells g (n * 10) (exCells x v9)).setCell ⟨b, o, none⟩ v)) : P (((((((((((w6.setCell ⟨b, o, none⟩ v).setCell ⟨g, n * 10, none⟩ (.int .i64 x.f0)).setCell ⟨g, n * 10 + 1, none⟩ (.int .i64 x.f1)).setCell ⟨g, n * 10 + 2, none⟩ (.int .i64 x.f2.f0)).setCell ⟨g, n * 10 + 3, none⟩ (.int .i64 x.f2.f1)).setCell ⟨g, n * 10 + 4, none⟩ (.string x.f2.f2)).setCell ⟨g, n * 10 + 5, none⟩ (.bool x.f2.f3)).setCell ⟨g, n * 10 + 6, none⟩ (.string x.f3)).setCell ⟨g, n * 10 + 7, none⟩ (.int .i64 x.f4)).setCell ⟨g, n * 10 + 8, none⟩ (.string x.f5)).setCell ⟨g, n * 10 + 9, none⟩ (v9)) := by
  rw [← setCells_swap b o v g hne] at h
  exact h
theorem nestA_below {base : Nat} {w w6 : World} {g n b o : Nat} {x : Ex} {v9 v : Value} (h : Below base w w6) (hg : base ≤ g) (hb : base ≤ b) : Below base w (((((((((((w6.setCell ⟨g, n * 10, none⟩ (.int .i64 x.f0)).setCell ⟨g, n * 10 + 1, none⟩ (.int .i64 x.f1)).setCell ⟨g, n * 10 + 2, none⟩ (.int .i64 x.f2.f0)).setCell ⟨g, n * 10 + 3, none⟩ (.int .i64 x.f2.f1)).setCell ⟨g, n * 10 + 4, none⟩ (.string x.f2.f2)).setCell ⟨g, n * 10 + 5, none⟩ (.bool x.f2.f3)).setCell ⟨g, n * 10 + 6, none⟩ (.string x.f3)).setCell ⟨g, n * 10 + 7, none⟩ (.int .i64 x.f4)).setCell ⟨g, n * 10 + 8, none⟩ (.string x.f5)).setCell ⟨g, n * 10 + 9, none⟩ (v9)).setCell ⟨b, o, none⟩ v) :=
  (((((((((((h.setCell (p := ⟨g, n * 10, none⟩) hg _).setCell (p := ⟨g, n * 10 + 1, none⟩) hg _).setCell (p := ⟨g, n * 10 + 2, none⟩) hg _).setCell (p := ⟨g, n * 10 + 3, none⟩) hg _).setCell (p := ⟨g, n * 10 + 4, none⟩) hg _).setCell (p := ⟨g, n * 10 + 5, none⟩) hg _).setCell (p := ⟨g, n * 10 + 6, none⟩) hg _).setCell (p := ⟨g, n * 10 + 7, none⟩) hg _).setCell (p := ⟨g, n * 10 + 8, none⟩) hg _).setCell (p := ⟨g, n * 10 + 9, none⟩) hg _).setCell (p := ⟨b, o, none⟩) hb _)
theorem nestB_below {base : Nat} {w w6 : World} {g n b o : Nat} {x : Ex} {v9 v : Value} (h : Below base w w6) (hg : base ≤ g) (hb : base ≤ b) : Below base w (((((((((((w6.setCell ⟨b, o, none⟩ v).setCell ⟨g, n * 10, none⟩ (.int .i64 x.f0)).setCell ⟨g, n * 10 + 1, none⟩ (.int .i64 x.f1)).setCell ⟨g, n * 10 + 2, none⟩ (.int .i64 x.f2.f0)).setCell ⟨g, n * 10 + 3, none⟩ (.int .i64 x.f2.f1)).setCell ⟨g, n * 10 + 4, none⟩ (.string x.f2.f2)).setCell ⟨g, n * 10 + 5, none⟩ (.bool x.f2.f3)).setCell ⟨g, n * 10 + 6, none⟩ (.string x.f3)).setCell ⟨g, n * 10 + 7, none⟩ (.int .i64 x.f4)).setCell ⟨g, n * 10 + 8, none⟩ (.string x.f5)).setCell ⟨g, n * 10 + 9, none⟩ (v9)) :=
  (((((((((((h.setCell (p := ⟨b, o, none⟩) hb _).setCell (p := ⟨g, n * 10, none⟩) hg _).setCell (p := ⟨g, n * 10 + 1, none⟩) hg _).setCell (p := ⟨g, n * 10 + 2, none⟩) hg _).setCell (p := ⟨g, n * 10 + 3, none⟩) hg _).setCell (p := ⟨g, n * 10 + 4, none⟩) hg _).setCell (p := ⟨g, n * 10 + 5, none⟩) hg _).setCell (p := ⟨g, n * 10 + 6, none⟩) hg _).setCell (p := ⟨g, n * 10 + 7, none⟩) hg _).setCell (p := ⟨g, n * 10 + 8, none⟩) hg _).setCell (p := ⟨g, n * 10 + 9, none⟩) hg _)

set_option maxRecDepth 100000 in
theorem lists_ix0 (W : World) : (Instr.index 136 (.agg listsV) (.int .i64 0)).run Try.prog W = .ok (.agg #[.int .i64 1, .func (.func 72) #[] #[]]) W := by kernel_rfl
set_option maxRecDepth 100000 in
theorem lists_ix1 (W : World) : (Instr.index 136 (.agg listsV) (.int .i64 1)).run Try.prog W = .ok (.agg #[.int .i64 2, .func (.func 73) #[] #[]]) W := by kernel_rfl
set_option maxRecDepth 100000 in
theorem lists_ix2 (W : World) : (Instr.index 136 (.agg listsV) (.int .i64 2)).run Try.prog W = .ok (.agg #[.int .i64 3, .func (.func 74) #[] #[]]) W := by kernel_rfl
set_option maxRecDepth 100000 in
theorem lists_ix3 (W : World) : (Instr.index 136 (.agg listsV) (.int .i64 3)).run Try.prog W = .ok (.agg #[.int .i64 4, .func (.func 75) #[] #[]]) W := by kernel_rfl
set_option maxRecDepth 100000 in
theorem lists_ix4 (W : World) : (Instr.index 136 (.agg listsV) (.int .i64 4)).run Try.prog W = .ok (.agg #[.int .i64 5, .func (.func 76) #[] #[]]) W := by kernel_rfl
set_option maxRecDepth 100000 in
theorem lists_call0 (args : Array Value) (W : World) : (callFunc 72 args).run Try.prog W = .ok (.enter 72 args) W := by kernel_rfl
set_option maxRecDepth 100000 in
theorem lists_call1 (args : Array Value) (W : World) : (callFunc 73 args).run Try.prog W = .ok (.enter 73 args) W := by kernel_rfl
set_option maxRecDepth 100000 in
theorem lists_call2 (args : Array Value) (W : World) : (callFunc 74 args).run Try.prog W = .ok (.enter 74 args) W := by kernel_rfl
set_option maxRecDepth 100000 in
theorem lists_call3 (args : Array Value) (W : World) : (callFunc 75 args).run Try.prog W = .ok (.enter 75 args) W := by kernel_rfl
set_option maxRecDepth 100000 in
theorem lists_call4 (args : Array Value) (W : World) : (callFunc 76 args).run Try.prog W = .ok (.enter 76 args) W := by kernel_rfl
theorem lists_call (j : Nat) (hj : j < 5) (args : Array Value) (W : World) : (callFunc (72 + j) args).run Try.prog W = .ok (.enter (72 + j) args) W := by
  have hc : j = 0 ∨ j = 1 ∨ j = 2 ∨ j = 3 ∨ j = 4 := by omega
  rcases hc with rfl | rfl | rfl | rfl | rfl
  · exact lists_call0 args W
  · exact lists_call1 args W
  · exact lists_call2 args W
  · exact lists_call3 args W
  · exact lists_call4 args W
theorem lists_ix (j : Nat) (hj : j < 5) (W : World) : (Instr.index 136 (.agg listsV) (.int .i64 (j : Int))).run Try.prog W = .ok (.agg #[.int .i64 ((j : Int) + 1), .func (.func (72 + j)) #[] #[]]) W := by
  have hc : j = 0 ∨ j = 1 ∨ j = 2 ∨ j = 3 ∨ j = 4 := by omega
  rcases hc with rfl | rfl | rfl | rfl | rfl
  · exact lists_ix0 W
  · exact lists_ix1 W
  · exact lists_ix2 W
  · exact lists_ix3 W
  · exact lists_ix4 W
section
variable {base G : Nat} {cs : List Cp} {L : Nat → Nat → List Ex} {S N : Nat} {T U : Nat → ByteArray} {Pl : Nat → Bool} {nb cap : Nat → Nat} {junk V : Nat → Nat → Value} {f : Nat → Nat}
theorem find_any {w : World} (h : LayIn w base G cs L S N T U Pl nb cap junk V f) (j k n i : Nat) (hj : j + 1 = k) (hv : VP cs k i) (hni : k = 5 ∨ n = i) :
    Calls Try.prog (72 + j) #[.pointer (some ⟨G, 0, none⟩), .int .i64 n] w fun e w' => e = .returned (.pointer (some ⟨(adr cs G S nb k i).1, (adr cs G S nb k i).2, none⟩)) ∧ w' = w := by
  have hk : k = 1 ∨ k = 2 ∨ k = 3 ∨ k = 4 ∨ k = 5 := by rcases hv with ⟨h | h | h, _⟩ | ⟨h, _⟩ | ⟨h, _⟩ <;> omega
  rcases hk with rfl | rfl | rfl | rfl | rfl
  · obtain rfl : j = 0 := by omega
    obtain rfl : n = i := by omega
    exact find1_any h n hv
  · obtain rfl : j = 1 := by omega
    obtain rfl : n = i := by omega
    exact find2_any h n hv
  · obtain rfl : j = 2 := by omega
    obtain rfl : n = i := by omega
    exact find3_any h n hv
  · obtain rfl : j = 3 := by omega
    obtain rfl : n = i := by omega
    exact find4_any h n hv
  · obtain rfl : j = 4 := by omega
    exact find5_any h n
def AddPost (base G : Nat) (cs : List Cp) (L' : Nat → Nat → List Ex) (f : Nat → Nat) (w : World) (e : Ending) (w' : World) : Prop := e = .returned (.tuple #[]) ∧ AddInv base G cs L' f w w'

set_option maxHeartbeats 16000000 in
set_option maxRecDepth 100000 in
theorem add_in {w : World} (h : LayIn w base G cs L S N T U Pl nb cap junk V f) (k m i : Nat) (hv : VP cs k i) (hni : k = 5 ∨ m = i) (x : Ex) (A : Option Addr) (c : Nat) (hN : exN x ≤ 100000000000) (hc : x.f6.length ≤ c) (hCx : kEx.C w A x.f6.length x.f6) (hlen : (L k i).length ≤ 1000000) (hbase : base ≤ w.heap.size) :
    Calls Try.prog 43 #[.pointer (some ⟨G, 0, none⟩), .int .i64 k, .int .i64 m, exV x (.slice A x.f6.length c)] w (AddPost base G cs (upd2 L k i (L k i ++ [x])) f w) := by
  have hk5 : 1 ≤ k ∧ k ≤ 5 := by rcases hv with ⟨h | h | h, _⟩ | ⟨h, _⟩ | ⟨h, _⟩ <;> omega
  have hx0 := below_new w (.cells #[.int .i64 x.f0, .int .i64 x.f1, .int .i64 x.f2.f0, .int .i64 x.f2.f1, .string x.f2.f2, .bool x.f2.f3, .string x.f3, .int .i64 x.f4, .string x.f5, .slice A x.f6.length c] 31)
  have hX := blk_new w (.cells #[.int .i64 x.f0, .int .i64 x.f1, .int .i64 x.f2.f0, .int .i64 x.f2.f1, .string x.f2.f2, .bool x.f2.f3, .string x.f3, .int .i64 x.f4, .string x.f5, .slice A x.f6.length c] 31)
  have hlo := listsOf_any (w.alloc (.cells #[.int .i64 x.f0, .int .i64 x.f1, .int .i64 x.f2.f0, .int .i64 x.f2.f1, .string x.f2.f2, .bool x.f2.f3, .string x.f3, .int .i64 x.f4, .string x.f5, .slice A x.f6.length c] 31))
  unfold exV
  go_enter Try.func43, Try.ntmps43
  go_wp2_with fail
  refine hlo.mono ?_
  rintro e W1 ⟨rfl, hb1⟩
  have hX := blk_below hX hb1
  have hbw := below_step hx0 hb1
  have HL := Lib.hid (h.below hbw)
  have HCX := Lib.hid (Kd.C_below hCx hbw)
  clear h hlo hCx hx0
  go_wp2_with fail
  go_loopw [12] (fun t12 wr => ∃ j : Nat, j ≤ 5 ∧ t12 = .int .i64 j ∧ ((j < k ∧ Below W1.heap.size W1 wr) ∨ (k ≤ j ∧ AddInv base G cs (upd2 L k i (L k i ++ [x])) f w wr))) (fun t12 _ => 5 - (intOf t12).toNat)
  case atStart => exact ⟨0, by omega, rfl, Or.inl ⟨by omega, Below.refl _ _⟩⟩
  case round =>
    obtain ⟨j, hj, rfl, hO⟩ := hrel
    by_cases hlt : j < 5
    · have i1 : (0 : Int) ≤ (j : Int) := by omega
      have i2 : (j : Int) < 5 := by omega
      have hix := lists_ix j hlt
      have hcf := lists_call j hlt
      have HF := Lib.hid (show 72 + j = 72 + j from rfl)
      by_cases hjk : j + 1 = k
      · have dk : ((j : Int) + 1 == (k : Int)) = true := by rw [beq_iff_eq]; omega
        obtain ⟨_, hB⟩ | ⟨h, _⟩ := hO
        · have HFIND := Lib.hid (fun (W3 : World) (h : LayIn W3 base G cs L S N T U Pl nb cap junk V f) => find_any h j k m i hjk hv hni)
          generalize 72 + j = F at *
          have HJK := Lib.hid hjk
          go_upto_block 1 with fail
          go_cut [9, 10, 12] from 12 to 34 (fun t9 t10 t12 wx => t12 = .int .i64 (j : Int) ∧ Hid (AddInv base G cs (upd2 L k i (L k i ++ [x])) f w wx))
          case first =>
            have hb3 := below_new wr (.cells #[.int .i64 ((j : Int) + 1), .func (.func F) #[] #[]] 135)
            have hB3 := below_step hB hb3
            have hL3 := Lib.hid (LayIn.below HL.out hB3)
            have hX3 := blk_below hX hB3
            have hbs3 := Nat.le_trans hbase (below_step hbw hB3).size
            go_wp2_with fail
            generalize wr.alloc (.cells #[.int .i64 ((j : Int) + 1), .func (.func F) #[] #[]] 135) = W3 at *
            refine (HFIND.out W3 hL3.out).mono ?_
            rintro e W4 ⟨rfl, rfl⟩
            have hk8 : k < 8 := by omega
            have hat := hL3.out.at_ k i hv
            obtain ⟨A5, c5, hV5⟩ := Kd.R_slice (hL3.out.hL k i hk8)
            have hR5 := hL3.out.hL k i hk8
            rw [hV5] at hat hR5
            have HP2 := Lib.hid (fun (W3 w5 W w6 : World) (h : LayIn W3 base G cs L S N T U Pl nb cap junk V f) => @add_done base G cs L S N T U Pl nb cap junk V f W3 w5 W w6 h k i hv x)
            obtain ⟨hat1, hat2, hat3, tb, cb, hat4, hat5⟩ := hat
            rw [hV5] at HP2
            obtain ⟨b, hb⟩ : ∃ b, b = (adr cs G S nb k i).1 := ⟨_, rfl⟩
            obtain ⟨o, ho⟩ : ∃ o, o = (adr cs G S nb k i).2 := ⟨_, rfl⟩
            rw [← hb, ← ho] at hat1 hat2 HP2 ⊢
            rw [← hb] at hat3 hat5
            have hR5 := Kd.R_mono (Kd.R_bound hR5) (ok' := fun b => (if W4.heap.size ≤ b then 8 * i + k else f b) = 8 * i + k) (fun b hb => by show (if W4.heap.size ≤ b then 8 * i + k else f b) = 8 * i + k; rw [if_neg (by have := hb.2.2.1; omega)]; exact hb.1)
            have HNB := Lib.hid (Kd.R_ne hR5 hat5 (fun h => hat4 h.symm))
            have hbs := blk_lt hat5
            have i7 : ((L k i).length : Int) < (((L k i).length + 1 : Nat) : Int) := by omega
            have i0 : (0 : Int) ≤ ((L k i).length : Int) := by omega
            have i8 : ((L k i).length : Int) < ((L k i).length : Int) + 1 := by omega
            have hle : ((L k i).length + 1) * 120 ≤ 140737488355328 := by omega
            generalize hxs : L k i = xs at *
            generalize hnn : xs.length = n at *
            have HR5 := Lib.hid hR5
            have HFR := Lib.hid (show ∀ b, W4.heap.size ≤ b → (if W4.heap.size ≤ b then 8 * i + k else f b) = 8 * i + k from fun b hb => if_pos hb)
            have HLE := Lib.hid hle
            have HNN := Lib.hid hnn.symm
            have HXS := Lib.hid hxs
            have HB5 := Lib.hid hat5
            have HTB := Lib.hid hat4
            have HBB := Lib.hid (And.intro hb ho)
            have HB3 := Lib.hid hB3
            have HBS := Lib.hid hbs3
            have HBA := Lib.hid hat3
            have HJK := Lib.hid hjk
            have HBW3 := Lib.hid (below_step hbw hB3)
            have HWS := Lib.hid (below_step hbw hB3).size
            have HBW := Lib.hid (below_lower (below_step hbw hB3) hbase)
            have HCX3 := Lib.hid (Kd.C_below HCX.out HB3.out)
            have HOWN := Lib.hid (fun (W : World) (hb : Below W4.heap.size W4 W) => own_any (exN x) x A c W (Nat.le_refl _) hN hc (Kd.C_below HCX3.out hb))
            clear hR5 hle hnn hxs hat5 hat4 hb ho hV5 hB3 hat3 hbs hbs3 hb3 hix hjk hB
            have x0 := (blk_cell hX3 0).trans rfl; have x1 := (blk_cell hX3 1).trans rfl; have x2 := (blk_cell hX3 2).trans rfl; have x3 := (blk_cell hX3 3).trans rfl; have x4 := (blk_cell hX3 4).trans rfl; have x5 := (blk_cell hX3 5).trans rfl; have x6 := (blk_cell hX3 6).trans rfl; have x7 := (blk_cell hX3 7).trans rfl; have x8 := (blk_cell hX3 8).trans rfl; have x9 := (blk_cell hX3 9).trans rfl
            unfold OwnPost exV at HOWN
            go_wp2_with fail
            have hat1z := pw_cell_below (below_new W4 (.cells #[.int .i64 0, .int .i64 0, .int .i64 0, .int .i64 0, .string ⟨#[]⟩, .bool false, .string ⟨#[]⟩, .int .i64 0, .string ⟨#[]⟩, .slice none 0 0] 31)) hat1
            have xz0 := pw_cell_below (below_new W4 (.cells #[.int .i64 0, .int .i64 0, .int .i64 0, .int .i64 0, .string ⟨#[]⟩, .bool false, .string ⟨#[]⟩, .int .i64 0, .string ⟨#[]⟩, .slice none 0 0] 31)) x0
            have xz1 := pw_cell_below (below_new W4 (.cells #[.int .i64 0, .int .i64 0, .int .i64 0, .int .i64 0, .string ⟨#[]⟩, .bool false, .string ⟨#[]⟩, .int .i64 0, .string ⟨#[]⟩, .slice none 0 0] 31)) x1
            have xz2 := pw_cell_below (below_new W4 (.cells #[.int .i64 0, .int .i64 0, .int .i64 0, .int .i64 0, .string ⟨#[]⟩, .bool false, .string ⟨#[]⟩, .int .i64 0, .string ⟨#[]⟩, .slice none 0 0] 31)) x2
            have xz3 := pw_cell_below (below_new W4 (.cells #[.int .i64 0, .int .i64 0, .int .i64 0, .int .i64 0, .string ⟨#[]⟩, .bool false, .string ⟨#[]⟩, .int .i64 0, .string ⟨#[]⟩, .slice none 0 0] 31)) x3
            have xz4 := pw_cell_below (below_new W4 (.cells #[.int .i64 0, .int .i64 0, .int .i64 0, .int .i64 0, .string ⟨#[]⟩, .bool false, .string ⟨#[]⟩, .int .i64 0, .string ⟨#[]⟩, .slice none 0 0] 31)) x4
            have xz5 := pw_cell_below (below_new W4 (.cells #[.int .i64 0, .int .i64 0, .int .i64 0, .int .i64 0, .string ⟨#[]⟩, .bool false, .string ⟨#[]⟩, .int .i64 0, .string ⟨#[]⟩, .slice none 0 0] 31)) x5
            have xz6 := pw_cell_below (below_new W4 (.cells #[.int .i64 0, .int .i64 0, .int .i64 0, .int .i64 0, .string ⟨#[]⟩, .bool false, .string ⟨#[]⟩, .int .i64 0, .string ⟨#[]⟩, .slice none 0 0] 31)) x6
            have xz7 := pw_cell_below (below_new W4 (.cells #[.int .i64 0, .int .i64 0, .int .i64 0, .int .i64 0, .string ⟨#[]⟩, .bool false, .string ⟨#[]⟩, .int .i64 0, .string ⟨#[]⟩, .slice none 0 0] 31)) x7
            have xz8 := pw_cell_below (below_new W4 (.cells #[.int .i64 0, .int .i64 0, .int .i64 0, .int .i64 0, .string ⟨#[]⟩, .bool false, .string ⟨#[]⟩, .int .i64 0, .string ⟨#[]⟩, .slice none 0 0] 31)) x8
            have xz9 := pw_cell_below (below_new W4 (.cells #[.int .i64 0, .int .i64 0, .int .i64 0, .int .i64 0, .string ⟨#[]⟩, .bool false, .string ⟨#[]⟩, .int .i64 0, .string ⟨#[]⟩, .slice none 0 0] 31)) x9
            have HKEPT := Lib.hid (show ∀ (W : World), LayF W base G cs (upd2 L k i (xs ++ [x])) (fun b => if W4.heap.size ≤ b then 8 * i + k else f b) ∧ (∀ y cells, f y = 7 → W4.heap[y]? = some (.cells cells 31 (0, 0)) → W.heap[y]? = some (.cells cells 31 (0, 0))) → ∃ f', LayF W base G cs (upd2 L k i (xs ++ [x])) f' ∧ (∀ b, b < w.heap.size → f' b = f b) ∧ ∀ y cells, f y = 7 → w.heap[y]? = some (.cells cells 31 (0, 0)) → W.heap[y]? = some (.cells cells 31 (0, 0)) from
                fun W hW => ⟨_, hW.1, fun b hb => if_neg (by have := HWS.out; omega), fun y cells hy hc => hW.2 y cells hy (blk_below hc HBW3.out)⟩)
            go_region_law (first | (go_simp; go_at_call 61; refine (HOWN.out _ (by first | exact below_drew (Below.refl _ _) | exact below_drew (below_new _ _) | exact below_new _ _)).mono ?_; rintro e w5 ⟨hb5, v9, rfl, hr9⟩; have hbk : Below W4.heap.size W4 w5 := (by first | exact below_step (below_drew (Below.refl _ _)) hb5 | exact below_step (below_drew (below_new _ _)) hb5 | exact below_step (below_new _ _) hb5); obtain ⟨A9, c9, rfl⟩ := Kd.R_slice hr9; have HR9 := Lib.hid hr9; have hat5 := pw_cell_below hbk hat1; have hat5z := pw_cell_below (below_step hbk (below_new _ (.cells #[.int .i64 0, .int .i64 0, .int .i64 0, .int .i64 0, .string ⟨#[]⟩, .bool false, .string ⟨#[]⟩, .int .i64 0, .string ⟨#[]⟩, .slice none 0 0] 31))) hat1) | (refine step_ex (w0 := W4) base (by rfl) _ _ (by rfl) _ xs n HNN.out _ (by first | exact blk_new _ _ | exact blk_below (blk_new _ _) hb5 | exact blk_below (blk_drew (blk_new _ _)) hb5) _ (fun j hj => HFR.out j (by first | exact Nat.le_trans hbk.size hj | exact Nat.le_trans (below_step hbk (below_new _ _)).size hj)) (by rfl) (by rfl) (by first | exact Kd.R_below HR5.out hbk | exact Kd.R_below HR5.out (below_step hbk (below_new _ _))) (by first | exact below_lower hbk HBS.out | exact below_lower (below_step hbk (below_new _ _)) HBS.out) (by first | exact Nat.le_trans HBS.out hbk.size | exact Nat.le_trans HBS.out (below_step hbk (below_new _ _)).size) (by have := HLE.out; have := HNN.out; omega) ?_; intro g cp w6 hR6 hB6 hg6 hat6; have HR6 := Lib.hid hR6; have HG6 := Lib.hid hg6; have HA6 := Lib.hid hat6; obtain ⟨cur, hcur, hbg, hokg, hcells⟩ := R_last_cells HNN.out hR6; have HBG := Lib.hid hbg; have hfz := blk_frozen hcur; obtain ⟨s0, t0⟩ := hcells 0 (by decide); obtain ⟨s1, t1⟩ := hcells 1 (by decide); obtain ⟨s2, t2⟩ := hcells 2 (by decide); obtain ⟨s3, t3⟩ := hcells 3 (by decide); obtain ⟨s4, t4⟩ := hcells 4 (by decide); obtain ⟨s5, t5⟩ := hcells 5 (by decide); obtain ⟨s6, t6⟩ := hcells 6 (by decide); obtain ⟨s7, t7⟩ := hcells 7 (by decide); obtain ⟨s8, t8⟩ := hcells 8 (by decide); obtain ⟨s9, t9⟩ := hcells 9 (by decide); rw [Nat.add_zero] at t0; have hbk6 : ∀ cells, W4.heap[b]? = some cells → w6.heap[b]? = some cells := (fun cells hc => by first | exact blk_grown (blk_below hc hbk) hg6 HNB.out | exact blk_grown (blk_below hc (below_step hbk (below_new _ _))) hg6 HNB.out); have hbq := hbk6 _ HB5.out; have hbc : w6.cell? ⟨b, o, none⟩ = some (.slice A5 n c5) := ((World.cell?_of_block (w := W4) (a := ⟨b, o, none⟩) (hbq.trans HB5.out.symm)).trans hat1); have hbf : w6.frozen? ⟨b, o, none⟩ = false := (blk_frozen hbq o); have hgb : g ≠ b := (fun e => by subst e; rw [hcur] at hbq; injection hbq with hbq; injection hbq with _ hbq; exact HTB.out hbq.symm); have hbgn : b ≠ g := (fun e => hgb e.symm); clear hcells hR6 hg6 hat6 hokg hbq hbk6))
            all_goals
              have hD := HP2.out W4 w5 _ w6 hL3.out rfl HR9.out (by first | exact Nat.le_refl _ | exact (below_new _ _).size) HBS.out hbk (by first | exact Below.refl _ _ | exact below_new _ _) HR6.out HG6.out HA6.out
              have hD2 := HKEPT.out _ hD
              have hB6' := HBW.out.trans hB6
              clear hD hat1 hat2 hat1z hat5 hat5z x0 x1 x2 x3 x4 x5 x6 x7 x8 x9 xz0 xz1 xz2 xz3 xz4 xz5 xz6 xz7 xz8 xz9 t0 t1 t2 t3 t4 t5 t6 t7 t8 t9 hbc hbf hfz hcur HP2 HR6 HG6 HR9 HOWN
              have hcomm : ∀ (W : World) (j : Nat) (u v : Value), (W.setCell ⟨b, o, none⟩ u).setCell ⟨g, j, none⟩ v = (W.setCell ⟨g, j, none⟩ v).setCell ⟨b, o, none⟩ u := fun W j u v => setCell_comm W ⟨b, o, none⟩ ⟨g, j, none⟩ u v hbgn
              try simp only [hcomm]
              clear hcomm
              have HD := Lib.hid (And.intro (@nestA_below base w w6 g n b o x (.slice A9 x.f6.length c9) (.slice (some ⟨g, 0, none⟩) (n + 1) cp) hB6' HBG.out HBA.out) (nestA_lay (P := fun W => ∃ f', LayF W base G cs (upd2 L k i (xs ++ [x])) f' ∧ (∀ b, b < w.heap.size → f' b = f b) ∧ ∀ y cells, f y = 7 → w.heap[y]? = some (.cells cells 31 (0, 0)) → W.heap[y]? = some (.cells cells 31 (0, 0))) hD2))
              clear hD2 hB6 hB6'
              generalize (((((((((((w6.setCell ⟨g, n * 10, none⟩ (.int .i64 x.f0)).setCell ⟨g, n * 10 + 1, none⟩ (.int .i64 x.f1)).setCell ⟨g, n * 10 + 2, none⟩ (.int .i64 x.f2.f0)).setCell ⟨g, n * 10 + 3, none⟩ (.int .i64 x.f2.f1)).setCell ⟨g, n * 10 + 4, none⟩ (.string x.f2.f2)).setCell ⟨g, n * 10 + 5, none⟩ (.bool x.f2.f3)).setCell ⟨g, n * 10 + 6, none⟩ (.string x.f3)).setCell ⟨g, n * 10 + 7, none⟩ (.int .i64 x.f4)).setCell ⟨g, n * 10 + 8, none⟩ (.string x.f5)).setCell ⟨g, n * 10 + 9, none⟩ (.slice A9 x.f6.length c9)).setCell ⟨b, o, none⟩ (.slice (some ⟨g, 0, none⟩) (n + 1) cp)) = WF at HD ⊢
              go_wp2_with fail
              go_meet
              first
              | exact ⟨rfl, HD⟩
              | (rw [HXS.out]; exact ⟨rfl, HD⟩)
            skip
          case rest =>
            obtain ⟨rfl, HD⟩ := hcut
            go_wp2_with fail
            go_roundw
            case rel => exact ⟨j + 1, by omega, by go_num, Or.inr ⟨by have := HJK.out; omega, HD.out⟩⟩
            case measure => simp [intOf]; omega
        · omega
      · have dk : ((j : Int) + 1 == (k : Int)) = false := by rw [beq_eq_false_iff_ne]; omega
        generalize 72 + j = F at *
        have hb3 := below_new wr (.cells #[.int .i64 ((j : Int) + 1), .func (.func F) #[] #[]] 135)
        have hO3 : (j + 1 < k ∧ Below W1.heap.size W1 (wr.alloc (.cells #[.int .i64 ((j : Int) + 1), .func (.func F) #[] #[]] 135))) ∨ (k ≤ j + 1 ∧ AddInv base G cs (upd2 L k i (L k i ++ [x])) f w (wr.alloc (.cells #[.int .i64 ((j : Int) + 1), .func (.func F) #[] #[]] 135))) := by
          rcases hO with ⟨h1, h2⟩ | ⟨h1, h2⟩
          · exact Or.inl ⟨by omega, below_step h2 hb3⟩
          · exact Or.inr ⟨by omega, h2.below hbase hb3⟩
        have HO3 := Lib.hid hO3
        clear hO3
        go_wp2_with fail
        go_roundw
        case rel => exact ⟨j + 1, by omega, by go_num, HO3.out⟩
        case measure => simp [intOf]; omega
    · obtain rfl : j = 5 := by omega
      rcases hO with ⟨h, _⟩ | ⟨_, hL⟩
      · omega
      · go_wp2_with fail
        refine bodyPost_ret (results_none rfl _ _ _) rfl ?_
        exact ⟨rfl, hL⟩
end
theorem add_any {base G : Nat} {cs : List Cp} {L : Nat → Nat → List Ex} {w : World} {f : Nat → Nat} (h : LayF w base G cs L f) (k n : Nat) (hv : VP cs k (plI k n)) (hni : k = 5 ∨ n = plI k n) (x : Ex) (A : Option Addr) (c : Nat) (hN : exN x ≤ 100000000000) (hc : x.f6.length ≤ c) (hCx : kEx.C w A x.f6.length x.f6) (hlen : (L k (plI k n)).length ≤ 1000000) (hbase : base ≤ w.heap.size) :
    Calls Try.prog 43 #[.pointer (some ⟨G, 0, none⟩), .int .i64 k, .int .i64 n, exV x (.slice A x.f6.length c)] w (AddPost base G cs (upd2 L k (plI k n) (L k (plI k n) ++ [x])) f w) := by
  obtain ⟨S, N, T, U, Pl, nb, cap, junk, V, h⟩ := h
  exact add_in h k n (plI k n) hv hni x A c hN hc hCx hlen hbase
end Go.Proofs.Ytgnifglolbfamaa

/- Expressions read with the blocks in which their Kids lie: a kind of its own, for a proof that no two lists share memory. -/
set_option linter.unusedVariables false
set_option linter.unusedSimpArgs false
namespace Go.Proofs.Ytgnifglolbfamaa
open Go.RowKit Go.Proofs.YtgnifglolbfamaaW.PrintWords

def svT {α : Type} (x : Option Nat × Nat × List α) : Value := .slice (x.1.map (fun g => ⟨g, 0, none⟩)) x.2.2.length x.2.1
/-- A list, its block and its capacity told. -/
def sliceT {α : Type} (e : Nat) (d : Kd α) : Kd (Option Nat × Nat × List α) where
  sz := 1
  E := e :: d.E
  K := fun w x cs => cs = [svT x] ∧ x.2.2.length ≤ x.2.1 ∧ d.C w (x.1.map (fun g => ⟨g, 0, none⟩)) x.2.2.length x.2.2
  M := fun w base ok x cs => cs = [svT x] ∧ d.R e w base ok (svT x) x.2.2
  K_len := by
    rintro w x cs ⟨rfl, _⟩
    rfl
  K_one := by
    rintro w x cs ⟨rfl, _⟩ u hu
    rw [List.mem_singleton.1 hu]
    rfl
  K_below := by
    rintro w w1 x cs hb ⟨rfl, hl, hr⟩
    exact ⟨rfl, hl, Kd.C_below hr hb⟩
  K_of_M := by
    rintro w base ok x cs ⟨rfl, h⟩
    obtain ⟨A, c, he, hl, hr⟩ := Kd.R_reads h
    unfold svT at he
    injection he with h1 h2 h3
    subst h1
    exact ⟨rfl, by omega, hr⟩
  M_mono := by
    rintro w base ok ok' x cs hok ⟨rfl, h⟩
    exact ⟨rfl, Kd.R_mono h hok⟩
  M_bound := by
    rintro w base ok x cs ⟨rfl, h⟩
    exact ⟨rfl, Kd.R_bound h⟩
  M_move := by
    rintro w w1 base ok x cs hm ⟨rfl, h⟩
    exact ⟨rfl, Kd.R_move h hm⟩
  M_lower := by
    rintro w base base' ok x cs hb ⟨rfl, h⟩
    exact ⟨rfl, Kd.R_lower h hb⟩
theorem mono_sliceT {α β : Type} (e : Nat) {G : Kd α → Kd β} (hG : Kd.Mono G) : Kd.Mono (fun d => sliceT e (G d)) := by
  refine ⟨fun _ _ _ => rfl, fun d d' hs h w x cs hk => ?_, fun d d' hs h w base ok x cs hm => ?_⟩
  · exact ⟨hk.1, hk.2.1, Kd.C_imp (hG.sz d d' hs) (fun w x cs => hG.K d d' hs h w x cs) hk.2.2⟩
  · exact ⟨hm.1, Kd.R_imp (hG.sz d d' hs) (fun w base ok x cs => hG.M d d' hs h w base ok x cs) hm.2⟩
theorem sub_sliceT {α β : Type} {E : List Nat} (e : Nat) {G : Kd α → Kd β} (he : e ∈ E) (hG : Kd.Sub G E) : Kd.Sub (fun d => sliceT e (G d)) E := fun d h q hq => by
  rcases List.mem_cons.1 hq with rfl | hq
  · exact he
  · exact hG d h q hq

/-- An expression with the blocks of its Kids. -/
inductive TX where
  | mk (f0 f1 : Int) (f2 : Val) (f3 : ByteArray) (f4 : Int) (f5 : ByteArray) (g : Option Nat) (cap : Nat) (kids : List TX)
namespace TX
def f0 : TX → Int | mk a .. => a
def f1 : TX → Int | mk _ a .. => a
def f2 : TX → Val | mk _ _ a .. => a
def f3 : TX → ByteArray | mk _ _ _ a .. => a
def f4 : TX → Int | mk _ _ _ _ a .. => a
def f5 : TX → ByteArray | mk _ _ _ _ _ a .. => a
def g : TX → Option Nat | mk _ _ _ _ _ _ a .. => a
def cap : TX → Nat | mk _ _ _ _ _ _ _ a _ => a
def kids : TX → List TX | mk _ _ _ _ _ _ _ _ a => a
end TX
mutual
def exT : TX → Ex
  | .mk a b c d e f _ _ k => ⟨a, b, c, d, e, f, exTs k⟩
def exTs : List TX → List Ex
  | [] => []
  | x :: l => exT x :: exTs l
end
theorem exTs_map : ∀ l : List TX, exTs l = l.map exT
  | [] => by rw [exTs]; rfl
  | x :: l => by rw [exTs, exTs_map l]; rfl
theorem exT_eq (x : TX) : exT x = ⟨x.f0, x.f1, x.f2, x.f3, x.f4, x.f5, x.kids.map exT⟩ := by
  cases x with
  | mk a b c d e f g cap k => rw [exT, exTs_map]; rfl
mutual
/-- The blocks of an expression's Kids, and of theirs. -/
def blT : TX → List Nat
  | .mk _ _ _ _ _ _ g _ k => g.toList ++ blTs k
def blTs : List TX → List Nat
  | [] => []
  | x :: l => blT x ++ blTs l
end
theorem blTs_eq : ∀ l : List TX, blTs l = l.flatMap blT
  | [] => by rw [blTs]; rfl
  | x :: l => by rw [blTs, blTs_eq l]; rfl
theorem blT_eq (x : TX) : blT x = x.g.toList ++ x.kids.flatMap blT := by
  cases x with
  | mk a b c d e f g cap k => rw [blT, blTs_eq]; rfl
/-- Its Kids' value. -/
def TX.v (x : TX) : Value := svT (x.g, x.cap, x.kids)
def zTX : TX := .mk 0 0 zVal ⟨#[]⟩ 0 ⟨#[]⟩ none 0 []
def fT (d : Kd TX) : Kd TX := Kd.iso (Kd.pair (Kd.int .i64) (Kd.pair (Kd.int .i64) (Kd.pair kVal (Kd.pair Kd.string (Kd.pair (Kd.int .i64) (Kd.pair Kd.string (sliceT 31 d))))))) (fun x : TX => (x.f0, x.f1, x.f2, x.f3, x.f4, x.f5, (x.g, x.cap, x.kids)))
theorem monoT : Kd.Mono fT := Kd.mono_iso _ (Kd.mono_pair (Kd.mono_const _) (Kd.mono_pair (Kd.mono_const _) (Kd.mono_pair (Kd.mono_const _) (Kd.mono_pair (Kd.mono_const _) (Kd.mono_pair (Kd.mono_const _) (Kd.mono_pair (Kd.mono_const _) (mono_sliceT 31 Kd.mono_id)))))))
theorem subT : Kd.Sub fT [31] := Kd.sub_iso _ (Kd.sub_pair (Kd.sub_const _ (by decide)) (Kd.sub_pair (Kd.sub_const _ (by decide)) (Kd.sub_pair (Kd.sub_const _ (by decide)) (Kd.sub_pair (Kd.sub_const _ (by decide)) (Kd.sub_pair (Kd.sub_const _ (by decide)) (Kd.sub_pair (Kd.sub_const _ (by decide)) (sub_sliceT 31 (by decide) Kd.sub_id)))))))
theorem szT : ∀ n, (Kd.upto fT 10 [31] n).sz = 10 := Kd.upto_sz (fun _ => rfl)
def kT : Kd TX := Kd.fix fT 10 [31] szT (Kd.upto_E subT)
theorem kT_open {w : World} {x : TX} {cs : List Value} (h : kT.K w x cs) : cs = [.int .i64 x.f0, .int .i64 x.f1, .int .i64 x.f2.f0, .int .i64 x.f2.f1, .string x.f2.f2, .bool x.f2.f3, .string x.f3, .int .i64 x.f4, .string x.f5, x.v] ∧ x.kids.length ≤ x.cap ∧ kT.C w (x.g.map (fun g => ⟨g, 0, none⟩)) x.kids.length x.kids := by
  obtain ⟨n, h⟩ := h
  cases n with
  | zero => exact h.elim
  | succ n =>
    obtain ⟨_, _, rfl, rfl, ⟨_, _, rfl, rfl, ⟨_, _, rfl, s2, ⟨_, _, rfl, rfl, ⟨_, _, rfl, rfl, ⟨_, _, rfl, rfl, ⟨rfl, l9, g9⟩⟩⟩⟩⟩⟩⟩ := h
    obtain rfl := kVal_open s2
    exact ⟨rfl, l9, Kd.fix_C g9⟩
theorem kT_openM {w : World} {base : Nat} {ok : Nat → Prop} {x : TX} {cs : List Value} (h : kT.M w base ok x cs) : cs = [.int .i64 x.f0, .int .i64 x.f1, .int .i64 x.f2.f0, .int .i64 x.f2.f1, .string x.f2.f2, .bool x.f2.f3, .string x.f3, .int .i64 x.f4, .string x.f5, x.v] ∧ kT.R 31 w base ok x.v x.kids := by
  obtain ⟨n, h⟩ := h
  cases n with
  | zero => exact h.elim
  | succ n =>
    obtain ⟨_, _, rfl, rfl, ⟨_, _, rfl, rfl, ⟨_, _, rfl, s2, ⟨_, _, rfl, rfl, ⟨_, _, rfl, rfl, ⟨_, _, rfl, rfl, ⟨rfl, g9⟩⟩⟩⟩⟩⟩⟩ := h
    obtain rfl := kVal_openM s2
    exact ⟨rfl, Kd.fix_R g9⟩
theorem kT_mkM (w : World) (base : Nat) (ok : Nat → Prop) (x : TX) (g9 : kT.R 31 w base ok x.v x.kids) : kT.M w base ok x [.int .i64 x.f0, .int .i64 x.f1, .int .i64 x.f2.f0, .int .i64 x.f2.f1, .string x.f2.f2, .bool x.f2.f3, .string x.f3, .int .i64 x.f4, .string x.f5, x.v] := by
  obtain ⟨n9, q9⟩ := Kd.fix_R_back monoT g9
  exact ⟨n9 + 1, ⟨[.int .i64 x.f0], _, rfl, rfl, ⟨[.int .i64 x.f1], _, rfl, rfl, ⟨[.int .i64 x.f2.f0, .int .i64 x.f2.f1, .string x.f2.f2, .bool x.f2.f3], _, rfl, kVal_mkM w base ok x.f2, ⟨[.string x.f3], _, rfl, rfl, ⟨[.int .i64 x.f4], _, rfl, rfl, ⟨[.string x.f5], _, rfl, rfl, ⟨rfl, q9⟩⟩⟩⟩⟩⟩⟩⟩
end Go.Proofs.Ytgnifglolbfamaa
