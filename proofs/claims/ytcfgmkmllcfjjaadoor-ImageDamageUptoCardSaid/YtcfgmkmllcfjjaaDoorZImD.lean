import Derived.Test.YtcfgmkmllcfjjaaDoorZImA
import Derived.Deep.AppendLies
import Derived.Lib.AppendStr
import Derived.Lib.Hide
set_option linter.unusedVariables false
set_option linter.unusedSimpArgs false
namespace Go.Proofs.YtcfgmkmllcfjjaaDoor
open Go.RowKit Go.Proofs.YtcfgmkmllcfjjaaDoorW.PrintWords Go.Proofs.YtcfgmkmllcfjjaaDoorW.PrintMore PImageForm
structure Only (S : Nat → Prop) (w w' : World) : Prop where
  os : w'.os = w.os
  tape : w'.tape = w.tape
  output : w'.output = w.output
  size : w.heap.size ≤ w'.heap.size
  block : ∀ k, k < w.heap.size → ¬ S k → w'.heap[k]? = w.heap[k]?
namespace Only
variable {S T : Nat → Prop} {w w1 w2 : World}
theorem refl (S : Nat → Prop) (w : World) : Only S w w := ⟨rfl, rfl, rfl, Nat.le_refl _, fun _ _ _ => rfl⟩
theorem trans (h : Only S w w1) (k : Only T w1 w2) (hs : ∀ b, b < w.heap.size → ¬ S b → T b → False) : Only S w w2 :=
  ⟨k.os.trans h.os, k.tape.trans h.tape, k.output.trans h.output, Nat.le_trans h.size k.size, fun i hi hn => (k.block i (Nat.lt_of_lt_of_le hi h.size) (fun ht => hs i hi hn ht)).trans (h.block i hi hn)⟩
theorem of_below (h : Below w.heap.size w w1) : Only S w w1 := ⟨h.os, h.tape, h.output, h.size, fun i hi _ => h.block i hi⟩
theorem below {B : Nat} (h : Only S w w1) (hB : B ≤ w.heap.size) (hs : ∀ b, b < B → ¬ S b) : Below B w w1 := ⟨h.os, h.tape, h.output, h.size, fun i hi => h.block i (Nat.lt_of_lt_of_le hi hB) (hs i hi)⟩
theorem setCell (a : Addr) (v : Value) (ha : S a.block) : Only S w (w.setCell a v) := ⟨rfl, rfl, rfl, by simp [World.setCell], fun k _ hn => Below.heap_setCell _ _ _ _ (fun e => hn (e ▸ ha))⟩
theorem grown {row : Option Nat} (hg : w.grownBy w1 row) (hr : ∀ k, row = some k → S k) : Only S w w1 :=
  ⟨hg.os, hg.tape, hg.output, hg.size, fun k hk hn => hg.block k hk (fun e => hn (hr k e.symm))⟩
theorem blk {g : Nat} {o : Obj} (h : Only S w w1) (hb : w.heap[g]? = some o) (hn : ¬ S g) : w1.heap[g]? = some o :=
  (h.block g (Array.getElem?_eq_some_iff.1 hb).1 hn).trans hb
end Only
theorem blk_lt' {w : World} {g : Nat} {o : Obj} (h : w.heap[g]? = some o) : g < w.heap.size := (Array.getElem?_eq_some_iff.1 h).1
theorem below_new (w : World) (o : Obj) : Below w.heap.size w (w.alloc o) := (Below.refl _ _).alloc (Nat.le_refl _) o
def Ty5 (w : World) (k : Nat) : Prop := ∃ cur fr, w.heap[k]? = some (.cells cur 5 fr)
def Wr (base gw : Nat) (w w' : World) : Prop := Only (fun k => base ≤ k ∧ (k = gw ∨ Ty5 w k)) w w'
namespace Wr
variable {base gw : Nat} {w w1 w2 : World}
theorem refl : Wr base gw w w := Only.refl _ _
theorem trans (h : Wr base gw w w1) (k : Wr base gw w1 w2) : Wr base gw w w2 := Only.trans h k (by
  rintro b hb hn ⟨h1, h2⟩
  apply hn
  refine ⟨h1, ?_⟩
  rcases h2 with h2 | ⟨cur, fr, h2⟩
  · exact .inl h2
  · have := h.block b hb hn
    exact .inr ⟨cur, fr, by rw [← this]; exact h2⟩)
theorem of_below (h : Below w.heap.size w w1) : Wr base gw w w1 := Only.of_below h
theorem below (h : Wr base gw w w1) (hB : base ≤ w.heap.size) : Below base w w1 := Only.below h hB (fun b hb hs => by have := hs.1; omega)
theorem blk {g : Nat} {cells : Array Value} {t : TypeId} {fr : Nat × Nat} (h : Wr base gw w w1) (hb : w.heap[g]? = some (.cells cells t fr)) (hg : g ≠ gw) (ht : t ≠ 5) : w1.heap[g]? = some (.cells cells t fr) :=
  Only.blk h hb (by
    rintro ⟨_, h2 | ⟨cur, fr', h2⟩⟩
    · exact hg h2
    · rw [hb] at h2
      injection h2 with h2
      injection h2 with _ h3
      exact ht h3)
theorem setCell (a : Addr) (v : Value) (h : Wr base gw w w1) (hb : base ≤ gw) (ha : a.block = gw) : Wr base gw w (w1.setCell a v) := h.trans (Only.setCell a v ⟨by rw [ha]; exact hb, .inl ha⟩)
theorem grown {row : Option Nat} (hg : w.grownBy w1 row) (hr : ∀ k, row = some k → base ≤ k ∧ Ty5 w k) : Wr base gw w w1 := Only.grown hg (fun k hk => ⟨(hr k hk).1, .inr (hr k hk).2⟩)
end Wr
theorem own_slice {w : World} {base : Nat} {e : TypeId} {size n : Nat} {v : Value} {xs : List Value} (h : w.ownsRow base e size v n xs) : ∃ A c, v = .slice A n c := by
  rcases h.2 with ⟨rfl, rfl⟩ | ⟨g, cap, cur, rfl, _⟩
  · exact ⟨none, 0, rfl⟩
  · exact ⟨_, _, rfl⟩
def WAt (w : World) (gw base : Nat) (l : List Int) (bad : Bool) : Prop :=
  base ≤ gw ∧ ∃ A c, w.heap[gw]? = some (.cells #[.slice A l.length c, .bool bad] 46 (0, 0)) ∧ w.ownsRow base 5 1 (.slice A l.length c) l.length (nums .u8 l)
theorem WAt.lt {w : World} {gw base : Nat} {l : List Int} {bad : Bool} (h : WAt w gw base l bad) : gw < w.heap.size := by
  obtain ⟨_, A, c, hb, _⟩ := h
  exact blk_lt' hb
theorem WAt.base_le {w : World} {gw base : Nat} {l : List Int} {bad : Bool} (h : WAt w gw base l bad) : base ≤ w.heap.size := by
  have := h.lt
  have := h.1
  omega
theorem WAt.below {w w' : World} {gw base : Nat} {l : List Int} {bad : Bool} (h : WAt w gw base l bad) (hB : Below w.heap.size w w') : WAt w' gw base l bad := by
  have hl := h.lt
  obtain ⟨h1, A, c, hb, ho⟩ := h
  refine ⟨h1, A, c, (hB.block gw hl).trans hb, own_move ho (fun k hk => hB.block k (own_lt ho k hk))⟩
theorem wapp_mem {w0 W w1 : World} {gw base c : Nat} {A : Option Addr} {l l' : List Int} {bad : Bool} {v1 : Value}
    (hgw : base ≤ gw) (hb : w0.heap[gw]? = some (.cells #[.slice A l.length c, .bool bad] 46 (0, 0))) (hO : w0.ownsRow base 5 1 (.slice A l.length c) l.length (nums .u8 l))
    (hB : Below w0.heap.size w0 W) (hg : W.grownBy w1 (Value.slice A l.length c).ownBlock) (hO1 : w1.ownsRow base 5 1 v1 l'.length (nums .u8 l')) :
    (∃ A1 c1, v1 = .slice A1 l'.length c1) ∧ w1.cell? ⟨gw, 0, none⟩ = some (.slice A l.length c) ∧ w1.frozen? ⟨gw, 0, none⟩ = false ∧ Wr base gw w0 w1 ∧
      WAt (w1.setCell ⟨gw, 0, none⟩ v1) gw base l' bad ∧ Wr base gw w0 (w1.setCell ⟨gw, 0, none⟩ v1) := by
  have hne : ∀ {w : World} {v : Value} {n : Nat} {xs : List Value} {cells : Array Value}, w.ownsRow base 5 1 v n xs → w.heap[gw]? = some (.cells cells 46 (0, 0)) → some gw ≠ v.ownBlock := by
    intro w v n xs cells ho hw he
    obtain ⟨cur, hc⟩ := own_typed ho gw he.symm
    rw [hw] at hc
    injection hc with hc
    injection hc with _ h3
    exact absurd h3 (by decide)
  have hW : W.heap[gw]? = some (.cells #[.slice A l.length c, .bool bad] 46 (0, 0)) := (hB.block gw (blk_lt' hb)).trans hb
  have h1 : w1.heap[gw]? = some (.cells #[.slice A l.length c, .bool bad] 46 (0, 0)) := (hg.block gw (blk_lt' hW) (hne hO hb)).trans hW
  obtain ⟨A1, c1, rfl⟩ := own_slice hO1
  have hR1 : Wr base gw w0 w1 := Wr.trans (Wr.of_below hB) (Wr.grown hg (fun k hk => ⟨own_base hO k hk, by
    obtain ⟨cur, hc⟩ := own_typed hO k hk
    exact ⟨cur, _, (hB.block k (blk_lt' hc)).trans hc⟩⟩))
  refine ⟨⟨A1, c1, rfl⟩, by rw [cell_of_row _ _ _ _ _ _ h1]; rfl, by simp [World.frozen?, h1], hR1, ⟨hgw, A1, c1, ?_, ?_⟩, ?_⟩
  · simp [World.setCell, Array.getElem?_modify, h1]
  · refine own_move hO1 (fun k hk => Below.heap_setCell _ _ _ _ (fun e => ?_))
    exact hne hO1 h1 (by rw [hk, e])
  · exact Wr.setCell _ _ hR1 hgw rfl
section
variable {ops : Array Oper} {rest : List Oper} {o : Oper} {a : Act} {Q : Exit → Act → World → Prop}
theorem wapp_str {w0 W : World} {gw base c : Nat} {A : Option Addr} {l : List Int} {bad : Bool} (hgd : o.guard = none) (s x : Operand)
    (ho : o.op = .call { callee := .builtin .append, args := #[s, x], argTypes := #[29, 9] })
    (hgw : base ≤ gw) (hb : w0.heap[gw]? = some (.cells #[.slice A l.length c, .bool bad] 46 (0, 0))) (hO : w0.ownsRow base 5 1 (.slice A l.length c) l.length (nums .u8 l))
    (hB : Below w0.heap.size w0 W) (y : ByteArray) (hs : a.eval s = .slice A l.length c) (hx : a.eval x = .string y) (hl : l.length + y.size ≤ 140737488355328)
    (h : ∀ A1 n1 c1 w1, w1.cell? ⟨gw, 0, none⟩ = some (.slice A l.length c) → w1.frozen? ⟨gw, 0, none⟩ = false → Wr base gw w0 w1 →
      Hid (WAt (w1.setCell ⟨gw, 0, none⟩ (.slice A1 n1 c1)) gw base (l ++ bytesOf y) bad ∧ Wr base gw w0 (w1.setCell ⟨gw, 0, none⟩ (.slice A1 n1 c1))) →
      wpList Tryd.prog ops Q rest (a.put o.dst (.slice A1 n1 c1)) w1) :
    wpList Tryd.prog ops Q (o :: rest) a W := by
  have hbs : base ≤ W.heap.size := by have := blk_lt' hb; have := hB.size; omega
  refine print_append_str (w0 := W) (W := W) base hgd s x 29 9 5 ho Tryd.underlying29 Tryd.underlying9 info5 _ l y hs hx (own_move hO (fun k hk => hB.block k (own_lt hO k hk))) (Below.refl _ _) hbs hl ?_
  intro v1 w1 hO1 _ hg
  obtain ⟨⟨A1, c1, rfl⟩, h2, h3, h6, h4, h5⟩ := wapp_mem (l' := l ++ bytesOf y) hgw hb hO hB hg hO1
  exact h A1 _ c1 w1 h2 h3 h6 (Lib.hid ⟨h4, h5⟩)
theorem wapp_row {w0 W : World} {gw base c : Nat} {A : Option Addr} {l : List Int} {bad : Bool} (hgd : o.guard = none) (s x : Operand)
    (ho : o.op = .call { callee := .builtin .append, args := #[s, x], argTypes := #[29, 29] })
    (hgw : base ≤ gw) (hb : w0.heap[gw]? = some (.cells #[.slice A l.length c, .bool bad] 46 (0, 0))) (hO : w0.ownsRow base 5 1 (.slice A l.length c) l.length (nums .u8 l))
    (hB : Below w0.heap.size w0 W) (ys : List Int) (ad : Addr) (n cc : Nat) (hn : n = ys.length) (hys : ∀ j u, (nums .u8 ys)[j]? = some u → W.cell? (ad.add j) = some u)
    (hs : a.eval s = .slice A l.length c) (hx : a.eval x = .slice (some ad) n cc) (hl : l.length + ys.length ≤ 140737488355328)
    (h : ∀ A1 n1 c1 w1, w1.cell? ⟨gw, 0, none⟩ = some (.slice A l.length c) → w1.frozen? ⟨gw, 0, none⟩ = false → Wr base gw w0 w1 →
      Hid (WAt (w1.setCell ⟨gw, 0, none⟩ (.slice A1 n1 c1)) gw base (l ++ ys) bad ∧ Wr base gw w0 (w1.setCell ⟨gw, 0, none⟩ (.slice A1 n1 c1))) →
      wpList Tryd.prog ops Q rest (a.put o.dst (.slice A1 n1 c1)) w1) :
    wpList Tryd.prog ops Q (o :: rest) a W := by
  subst hn
  have hbs : base ≤ W.heap.size := by have := blk_lt' hb; have := hB.size; omega
  obtain ⟨i0, hi, hzz⟩ := Option.map_eq_some_iff.1 info5
  simp only [Prod.mk.injEq] at hzz
  obtain ⟨hz0, hz1, hz2⟩ := hzz
  refine wpList_append_own_at W hgd s x 29 ho base 5 i0 (.int .u8 0) 1 1 Tryd.underlying29 hi hz0 hz1 hz2 rfl (by omega) _ l.length (nums .u8 l) hs (own_move hO (fun k hk => hB.block k (own_lt hO k hk))) ad ys.length cc (nums .u8 ys) hx (by rw [nums_length, Nat.mul_one]) hys
    (by intro u hu; simp only [nums, List.mem_map] at hu; obtain ⟨b, _, rfl⟩ := hu; rfl) (by simp only [maxLen]; omega) (by omega) hbs ?_
  intro v1 w1 hO1 hg _ _
  have hO1' : w1.ownsRow base 5 1 v1 (l ++ ys).length (nums .u8 (l ++ ys)) := by rw [List.length_append, nums_append]; exact hO1
  obtain ⟨⟨A1, c1, rfl⟩, h2, h3, h6, h4, h5⟩ := wapp_mem (l' := l ++ ys) hgw hb hO hB hg hO1'
  exact h A1 _ c1 w1 h2 h3 h6 (Lib.hid ⟨h4, h5⟩)
theorem wstep_row {w0 W : World} {K : Act → World → Prop} {E : Prop} {gw base c : Nat} {A : Option Addr} {l : List Int} {bad : Bool} (hgd : o.guard = none) (s x : Operand)
    (ho : o.op = .call { callee := .builtin .append, args := #[s, x], argTypes := #[29, 29] })
    (hgw : base ≤ gw) (hb : w0.heap[gw]? = some (.cells #[.slice A l.length c, .bool bad] 46 (0, 0))) (hO : w0.ownsRow base 5 1 (.slice A l.length c) l.length (nums .u8 l))
    (hB : Below w0.heap.size w0 W) (ys : List Int) (hpos : 0 < ys.length) (ad : Addr) (n cc : Nat) (hn : n = ys.length) (hys : ∀ j u, (nums .u8 ys)[j]? = some u → W.cell? (ad.add j) = some u)
    (hs : a.eval s = .slice A l.length c) (hx : a.eval x = .slice (some ad) n cc) (hl : l.length + ys.length ≤ 140737488355328)
    (h : ∀ A1 n1 c1 w1, w1.cell? ⟨gw, 0, none⟩ = some (.slice A l.length c) → w1.frozen? ⟨gw, 0, none⟩ = false → Wr base gw w0 w1 →
      Hid (WAt (w1.setCell ⟨gw, 0, none⟩ (.slice A1 n1 c1)) gw base (l ++ ys) bad ∧ Wr base gw w0 (w1.setCell ⟨gw, 0, none⟩ (.slice A1 n1 c1))) →
      K (a.put o.dst (.slice A1 n1 c1)) w1) :
    if Region.wanted o (yielded ops a.tmps) = true then Oper.wp Tryd.prog o a W K Q else E := by
  subst hn
  have hbs : base ≤ W.heap.size := by have := blk_lt' hb; have := hB.size; omega
  obtain ⟨i0, hi, hzz⟩ := Option.map_eq_some_iff.1 info5
  simp only [Prod.mk.injEq] at hzz
  obtain ⟨hz0, hz1, hz2⟩ := hzz
  refine step_append_lies W hgd s x 29 ho base 5 i0 (.int .u8 0) 1 1 Tryd.underlying29 hi hz0 hz1 hz2 rfl (by omega) _ l.length (nums .u8 l) hs (own_move hO (fun k hk => hB.block k (own_lt hO k hk))) ad ys.length cc (nums .u8 ys) hx (by rw [nums_length, Nat.mul_one]) hys
    (by intro u hu; simp only [nums, List.mem_map] at hu; obtain ⟨b, _, rfl⟩ := hu; rfl) hpos (by simp only [maxLen]; omega) (by omega) hbs _ rfl ?_
  intro g cap w1 hO1 hg _ _
  have hO1' : w1.ownsRow base 5 1 (.slice (some ⟨g, 0, none⟩) (l ++ ys).length cap) (l ++ ys).length (nums .u8 (l ++ ys)) := by rw [List.length_append, nums_append]; exact hO1
  obtain ⟨_, h2, h3, h6, h4, h5⟩ := wapp_mem (l' := l ++ ys) hgw hb hO hB hg hO1'
  have := h _ _ cap w1 h2 h3 h6 (Lib.hid ⟨h4, h5⟩)
  rw [List.length_append] at this
  exact this
end
end Go.Proofs.YtcfgmkmllcfjjaaDoor
