/- What layout.add writes: an element more, laid as zero first and then written. -/
import Derived.Test.YtgnifglolbfamaaPlU
set_option linter.unusedVariables false
set_option linter.unusedSimpArgs false
namespace Go.Proofs.Ytgnifglolbfamaa
open Go.RowKit Go.Proofs.YtgnifglolbfamaaW.PrintWords

theorem setCell_comm (w : World) (p q : Addr) (u v : Value) (h : p.block ≠ q.block) : (w.setCell p u).setCell q v = (w.setCell q v).setCell p u := by
  unfold World.setCell
  simp only
  congr 1
  apply Array.ext_getElem?
  intro i
  simp only [Array.getElem?_modify]
  by_cases h1 : q.block = i
  · have h2 : ¬ p.block = i := fun e => h (e.trans h1.symm)
    simp [h1, h2]
  · by_cases h2 : p.block = i <;> simp [h1, h2]

def z10 : Array Value := #[.int .i64 0, .int .i64 0, .int .i64 0, .int .i64 0, .string ⟨#[]⟩, .bool false, .string ⟨#[]⟩, .int .i64 0, .string ⟨#[]⟩, .slice none 0 0]
section
variable {ops : Array Oper} {o : Oper} {a : Act} {Q : Exit → Act → World → Prop} {K : Act → World → Prop} {E : Prop}
theorem step_ex {w0 W : World} (base : Nat) (hgd : o.guard = none) (s x : Operand) (ho : o.op = .call { callee := .builtin .append, args := #[s, x], argTypes := #[24, 24] })
    (v : Value) (xs : List Ex) (n : Nat) (hn : n = xs.length) (gz : Nat) (hgz : W.heap[gz]? = some (.cells z10 31 (0, 0))) (ok : Nat → Prop) (hfresh : ∀ k, W.heap.size ≤ k → ok k) (hs : a.eval s = v) (hx : a.eval x = .slice (some ⟨gz, 0, none⟩) 1 1)
    (HO : kEx.R 31 W base ok v xs) (HB : Below base w0 W) (hbase : base ≤ W.heap.size) (hl : (xs.length + 1) * 120 ≤ 140737488355328)
    (h : ∀ g cap w1, kEx.R 31 w1 base ok (.slice (some ⟨g, 0, none⟩) (n + 1) cap) (xs ++ [zEx]) → Below base w0 w1 → W.grownBy w1 v.ownBlock → (v.ownBlock = some g ∨ W.heap.size ≤ g) → K (a.put o.dst (.slice (some ⟨g, 0, none⟩) (n + 1) cap)) w1) :
    if Region.wanted o (yielded ops a.tmps) = true then Oper.wp Try.prog o a W K Q else E := by
  subst hn
  have hw : Region.wanted o (yielded ops a.tmps) = true := by simp [Region.wanted, hgd]
  have HR : ReadsRow (fun (x : Ex) (c : List Value) => x = zEx ∧ c = z10.toList) 10 W (some ⟨gz, 0, none⟩) 1 [zEx] := by
    refine ⟨rfl, by omega, fun _ => ⟨_, rfl, fun j p hj => ?_⟩⟩
    obtain rfl : j = 0 := by
      rcases j with _ | j
      · rfl
      · simp at hj
    simp at hj
    refine ⟨z10.toList, rfl, ⟨hj.symm, rfl⟩, fun i u hu => ?_⟩
    have e : Addr.add ⟨gz, 0, none⟩ (0 * 10 + i) = ⟨gz, i, none⟩ := by
      simp only [Addr.add]
      split
      · rename_i h; simp at h; rw [h]
      · simp
    rw [e, blk_cell hgz]
    rw [← Array.getElem?_toList]
    exact hu
  have := Kd.R_append_rows_step (P := Try.prog) (ops := ops) (o := o) (a := a) (Q := Q) (Kc := K) kEx (w0 := w0) (W := W) base hw s x 24 31 _ 120 ho Try.underlying24 infoEx rfl (by decide) (by omega) v xs [zEx] _ 1 1 ok (fun _ => False) hs hx HO HR
    (fun x c hx => by obtain ⟨rfl, rfl⟩ := hx; exact kEx_mkM W base _ zEx (Kd.R_nil _ _ _ _ _)) (fun _ h => h.elim) hfresh HB hbase hl
    (fun v1 w1 h1 h2 h3 h4 => by
      obtain ⟨inner, hown⟩ := Kd.R_own h1
      obtain ⟨g, cap, rfl, _, _⟩ := hown.form (by simp)
      rw [List.length_append, List.length_singleton] at h1 ⊢
      refine h g cap w1 h1 h2 h3 ?_
      rcases h4 with h4 | ⟨b, hb, hle⟩
      · left; rw [← h4]; rfl
      · right
        have : g = b := by simpa [Value.ownBlock] using hb
        omega)
  rw [if_pos hw] at this ⊢
  exact this
end

/-- The last element is written. -/
theorem R_last {W : World} {g cap base n : Nat} {ok okp : Nat → Prop} {xs : List Ex} {y : Ex} {v9 : Value} (hn : n = xs.length) (h : kEx.R 31 W base ok (.slice (some ⟨g, 0, none⟩) (n + 1) cap) (xs ++ [zEx]))
    (hM : kEx.R 31 W base okp v9 y.f6) (hokp : ∀ k, okp k → ok k ∧ k ≠ g) :
    kEx.R 31 (W.setCells g (n * 10) [.int .i64 y.f0, .int .i64 y.f1, .int .i64 y.f2.f0, .int .i64 y.f2.f1, .string y.f2.f2, .bool y.f2.f3, .string y.f3, .int .i64 y.f4, .string y.f5, v9]) base ok (.slice (some ⟨g, 0, none⟩) (n + 1) cap) (xs ++ [y]) ∧
      W.grownBy (W.setCells g (n * 10) [.int .i64 y.f0, .int .i64 y.f1, .int .i64 y.f2.f0, .int .i64 y.f2.f1, .string y.f2.f2, .bool y.f2.f3, .string y.f3, .int .i64 y.f4, .string y.f5, v9]) (some g) := by
  subst hn
  obtain ⟨_, _, hC⟩ := Kd.R_reads' h
  obtain ⟨ad, cc, e, hlen, hK, hcc⟩ := Kd.C_get hC zEx (xs.length : Int) (by omega) (by simp; omega)
  injection e with e
  subst e
  have hcc2 : ∀ j u, cc[j]? = some u → W.cell? ⟨g, ((xs.length : Nat) : Int).toNat * kEx.sz + j, none⟩ = some u := by
    intro j u hu
    have h1 := hcc j u hu
    have e : Addr.add ⟨g, 0, none⟩ (((xs.length : Nat) : Int).toNat * kEx.sz + j) = ⟨g, ((xs.length : Nat) : Int).toNat * kEx.sz + j, none⟩ := by
      simp only [Addr.add]
      split
      · rename_i h; rw [h]
      · simp
    rw [e] at h1
    exact h1
  have hl10 : cc.length = 10 := hlen
  have := Kd.R_seg (d := kEx) (x' := y) (j := 0) (seg := [.int .i64 y.f0, .int .i64 y.f1, .int .i64 y.f2.f0, .int .i64 y.f2.f1, .string y.f2.f2, .bool y.f2.f3, .string y.f3, .int .i64 y.f4, .string y.f5, v9]) h (xs.length : Int) (by omega) (by omega) hlen hcc2 (by show 0 + 10 ≤ 10; omega)
    (by rw [List.take_zero, List.nil_append, List.drop_eq_nil_of_le (by rw [hl10]; show 10 ≤ 0 + 10; omega), List.append_nil]; exact kEx_mkM W base okp y hM) hokp
  have hset : (xs ++ [zEx]).set ((xs.length : Nat) : Int).toNat y = xs ++ [y] := by
    rw [Int.toNat_natCast, List.set_append_right _ _ (Nat.le_refl _)]
    simp
  rw [hset, Int.toNat_natCast, Nat.add_zero] at this
  exact this

/-- The row's cells at its last element, before it is written. -/
theorem R_last_cells {W : World} {g cap base n : Nat} {ok : Nat → Prop} {xs : List Ex} (hn : n = xs.length) (h : kEx.R 31 W base ok (.slice (some ⟨g, 0, none⟩) (n + 1) cap) (xs ++ [zEx])) :
    ∃ cur, W.heap[g]? = some (.cells cur 31 (0, 0)) ∧ base ≤ g ∧ ok g ∧ ∀ j, j < 10 → ∃ u, W.cell? ⟨g, n * 10 + j, none⟩ = some u := by
  subst hn
  obtain ⟨inner, hl, ho⟩ := Kd.R_own h
  have hok := h.1 g rfl
  rcases ho with ⟨h1, _⟩ | ⟨g', cap', cur, hv, hb, hh, hnc, hcm, hsz, _⟩
  · exact absurd h1 (by simp)
  · injection hv with h1 _ h3
    injection h1 with h1
    injection h1 with h1
    subst h1
    subst h3
    refine ⟨cur, hh, hb, hok, fun j hj => ?_⟩
    rw [blk_cell hh]
    have hs : cur.size = cap * 10 := hsz
    rw [List.length_append, List.length_singleton] at hnc
    exact ⟨_, Array.getElem?_eq_getElem (by omega)⟩
end Go.Proofs.Ytgnifglolbfamaa
