/- Texts of the claim, merged in build order: PlR, PlS. -/
import Derived.Test.YtgnifglolbfamaaZAE
import Derived.BigRegion
/- The stages, as place.layoutOf leaves them, and the lists of conditions in them. -/
set_option linter.unusedVariables false
set_option linter.unusedSimpArgs false
namespace Go.Proofs.Ytgnifglolbfamaa
open Go.RowKit Go.Proofs.YtgnifglolbfamaaW.PrintWords

def ptrN (cs : List Cp) (nb : Nat → Nat) (k i : Nat) : Value :=
  if i < k ∧ negB cs i = true then .pointer (some ⟨nb (stA cs i), (ngI cs i (stA cs i)).length * 3, none⟩) else .pointer none
def nv (cs : List Cp) (nb cap : Nat → Nat) (s : Nat) : Value :=
  if ngI cs cs.length s = [] then .slice none 0 0 else .slice (some ⟨nb s, 0, none⟩) (ngI cs cs.length s).length (cap s)
def cellN (cs : List Cp) (s : Nat) (C junk : Nat → Value) (o : Nat) : Value :=
  match (ngI cs cs.length s)[o / 3]? with
  | some i => if o % 3 = 0 then .string (cpA cs i).f2 else if o % 3 = 1 then .string (cpA cs i).f3 else C i
  | none => junk o

structure Lo2 (w : World) (base S N G X : Nat) (cs : List Cp) (k : Nat) : Prop where
  bS : base ≤ S
  bN : base ≤ N
  bG : base ≤ G
  bX : base ≤ X
  hG : w.heap[G]? = some (.cells #[.slice (some ⟨S, 0, none⟩) (stg cs) (stg cs), .slice (some ⟨N, 0, none⟩) cs.length cs.length, .slice none 0 0] 102 (0, 0))
  hX : w.rowIs X 3 (stg cs) (fun s => .int .i64 ((ngI cs k s).length : Nat))
  ex : ∃ (T U : Nat → ByteArray) (Pl : Nat → Bool) (nb cap : Nat → Nat) (junk : Nat → Nat → Value),
    w.rowIs N 132 cs.length (ptrN cs nb k) ∧
    w.rowIs S 71 (stg cs * 7) (cellS T U Pl (nv cs nb cap) nilV nilV nilV) ∧
    (∀ s, ngI cs cs.length s ≠ [] → base ≤ nb s ∧ ((ngI cs cs.length s).length ≤ cap s ∧ cap s ≤ maxLen) ∧ w.rowIs (nb s) 73 (cap s * 3) (cellN cs s nilV (junk s))) ∧
    (∀ s s', ngI cs cs.length s ≠ [] → ngI cs cs.length s' ≠ [] → s ≠ s' → nb s ≠ nb s') ∧
    (∀ i, i < cs.length → negB cs i = false → T (stA cs i) = (cpA cs i).f2 ∧ U (stA cs i) = (cpA cs i).f3 ∧ Pl (stA cs i) = (cpA cs i).f1)

theorem neg_list {w : World} {base : Nat} {ok : Nat → Prop} {v : Value} {cs : List Cp} {s : Nat} (h : kN0.R 73 w base ok v (ngL cs cs.length s)) (hne : ngI cs cs.length s ≠ []) :
    ∃ g cap junk, v = .slice (some ⟨g, 0, none⟩) (ngI cs cs.length s).length cap ∧ base ≤ g ∧ ((ngI cs cs.length s).length ≤ cap ∧ cap ≤ maxLen) ∧ ok g ∧ w.rowIs g 73 (cap * 3) (cellN cs s nilV junk) := by
  obtain ⟨A, c, hv, hc, hC⟩ := Kd.R_reads h
  obtain ⟨inner, hl, ho⟩ := Kd.R_own h
  have hll : (ngL cs cs.length s).length = (ngI cs cs.length s).length := by unfold ngL; rw [List.length_map]
  have hlp : 0 < (ngI cs cs.length s).length := by
    rcases Nat.eq_zero_or_pos (ngI cs cs.length s).length with h0 | h0
    · exact absurd (List.length_eq_zero_iff.1 h0) hne
    · exact h0
  rcases ho with ⟨rfl, h0⟩ | ⟨g, cap, cur, hv2, hb, hh, hnc, hcm, hsz, htk⟩
  · omega
  · rw [hll] at hv2
    have hA : A = some ⟨g, 0, none⟩ := by
      rw [hv] at hv2
      injection hv2 with h1 _ _
    refine ⟨g, cap, fun o => cur.getD o undef, hv2, hb, ⟨by omega, hcm⟩, h.1 g (by rw [hv2]; simp [Value.ownBlock]), cur, hh, hsz, ?_⟩
    intro o ho
    have hcur : ∀ u, w.cell? ⟨g, o, none⟩ = some u → cur[o]? = some u := by
      intro u hu
      rw [blk_cell hh] at hu
      exact hu
    unfold cellN
    cases hj : (ngI cs cs.length s)[o / 3]? with
    | none =>
      have ho2 : o < cur.size := by rw [hsz]; exact ho
      simp [Array.getD, ho2]
    | some i =>
      obtain ⟨hjl, hji⟩ := List.getElem?_eq_some_iff.1 hj
      obtain ⟨ad, cc, e, _, hK, hc0⟩ := Kd.C_get hC zNg ((o / 3 : Nat) : Int) (by omega) (by omega)
      rw [hA] at e
      injection e with e
      subst e
      have hget : (ngL cs cs.length s).getD (((o / 3 : Nat) : Int)).toNat zNg = ngOf cs i := by
        unfold ngL
        rw [Int.toNat_natCast, List.getD_eq_getElem?_getD, List.getElem?_map, hj]
        rfl
      rw [hget] at hK
      have hK2 : cc = [.string (cpA cs i).f2, .string (cpA cs i).f3, .slice none 0 0] := hK
      subst hK2
      have hm : o % 3 < 3 := Nat.mod_lt _ (by omega)
      have ha : ∀ r, (Addr.add ⟨g, 0, none⟩ ((((o / 3 : Nat) : Int)).toNat * kN0.sz + r)) = ⟨g, o / 3 * 3 + r, none⟩ := by
        intro r
        rw [Int.toNat_natCast]
        show Addr.add ⟨g, 0, none⟩ (o / 3 * 3 + r) = _
        simp only [Addr.add]
        split
        · rename_i h; rw [h]
        · simp
      by_cases h0 : o % 3 = 0
      · simp only [h0, if_true]
        have := hc0 0 _ rfl
        rw [ha, show o / 3 * 3 + 0 = o from by omega] at this
        exact hcur _ this
      · by_cases h1 : o % 3 = 1
        · simp only [h1]
          have := hc0 1 _ rfl
          rw [ha, show o / 3 * 3 + 1 = o from by omega] at this
          exact hcur _ this
        · simp only [h0, h1, if_false]
          have := hc0 2 _ rfl
          rw [ha, show o / 3 * 3 + 2 = o from by omega] at this
          exact hcur _ this

theorem Lo1.to2 {w : World} {base S N G X : Nat} {cs : List Cp} (h : Lo1 w base S N G cs cs.length) (bX : base ≤ X) (hX : w.rowIs X 3 (stg cs) (fun _ => .int .i64 0)) : Lo2 w base S N G X cs 0 := by
  obtain ⟨bS, bN, bG, hG, hN, T, U, Pl, V, f, hS, hV, hE, hT⟩ := h
  have hch : ∀ s, ∃ q : Nat × Nat × (Nat → Value), ngI cs cs.length s ≠ [] → V s = .slice (some ⟨q.1, 0, none⟩) (ngI cs cs.length s).length q.2.1 ∧ base ≤ q.1 ∧ ((ngI cs cs.length s).length ≤ q.2.1 ∧ q.2.1 ≤ maxLen) ∧ f q.1 = s ∧ w.rowIs q.1 73 (q.2.1 * 3) (cellN cs s nilV q.2.2) := by
    intro s
    by_cases hne : ngI cs cs.length s = []
    · exact ⟨(0, 0, nilV), fun h => absurd hne h⟩
    · obtain ⟨g, cap, junk, h1, h2, h3, h4, h5⟩ := neg_list (hV s) hne
      exact ⟨(g, cap, junk), fun _ => ⟨h1, h2, h3, h4, h5⟩⟩
  obtain ⟨Q, hQ⟩ := Classical.axiomOfChoice hch
  refine ⟨bS, bN, bG, bX, hG, hX.congr (fun i _ => by simp [ngI]), T, U, Pl, fun s => (Q s).1, fun s => (Q s).2.1, fun s => (Q s).2.2, hN.congr (fun i _ => by simp [ptrN]), hS.congr (fun o _ => ?_), ?_, ?_, hT⟩
  · congr 1
    funext s
    unfold nv
    by_cases hne : ngI cs cs.length s = []
    · rw [if_pos hne]; exact hE s hne
    · rw [if_neg hne]; exact (hQ s hne).1
  · intro s hne
    exact ⟨(hQ s hne).2.1, (hQ s hne).2.2.1, (hQ s hne).2.2.2.2⟩
  · intro s s' h1 h2 hss he
    have e1 := (hQ s h1).2.2.2.1
    have e2 := (hQ s' h2).2.2.2.1
    have he2 : (Q s).1 = (Q s').1 := he
    rw [he2, e2] at e1
    exact hss e1.symm

theorem ngI_ne {cs : List Cp} {k : Nat} (hk : k < cs.length) (hn : negB cs k = true) : ngI cs cs.length (stA cs k) ≠ [] := by
  intro h
  have : k ∈ ngI cs cs.length (stA cs k) := by
    unfold ngI
    rw [List.mem_filter, List.mem_range]
    exact ⟨hk, by simp [hn]⟩
  rw [h] at this
  exact absurd this (by simp)

theorem Lo2.below {w w1 : World} {base S N G X : Nat} {cs : List Cp} {k : Nat} (h : Lo2 w base S N G X cs k) (hb : Below w.heap.size w w1) : Lo2 w1 base S N G X cs k := by
  obtain ⟨h1, h2, h3, h4, h5, h6, T, U, Pl, nb, cap, junk, h7, h8, h9, h10, h11⟩ := h
  exact ⟨h1, h2, h3, h4, blk_below h5 hb, rowIs_below h6 hb, T, U, Pl, nb, cap, junk, rowIs_below h7 hb, rowIs_below h8 hb, fun s hs => ⟨(h9 s hs).1, (h9 s hs).2.1, rowIs_below (h9 s hs).2.2 hb⟩, h10, h11⟩

theorem Lo2.pos {w : World} {base S N G X : Nat} {cs : List Cp} {k : Nat} (h : Lo2 w base S N G X cs k) (hn : negB cs k = false) : Lo2 w base S N G X cs (k + 1) := by
  obtain ⟨h1, h2, h3, h4, h5, h6, T, U, Pl, nb, cap, junk, h7, h8, h9, h10, h11⟩ := h
  refine ⟨h1, h2, h3, h4, h5, h6.congr (fun i _ => by rw [ngI_succ, hn]; simp), T, U, Pl, nb, cap, junk, h7.congr (fun i _ => ?_), h8, h9, h10, h11⟩
  unfold ptrN
  by_cases hi : negB cs i = true
  · have : i ≠ k := by rintro rfl; rw [hn] at hi; exact absurd hi (by decide)
    have : (i < k + 1 ∧ negB cs i = true) ↔ (i < k ∧ negB cs i = true) := by
      constructor <;> (rintro ⟨a, b⟩; exact ⟨by omega, b⟩)
    simp only [this]
  · rw [if_neg (fun h => hi h.2), if_neg (fun h => hi h.2)]

/-- What a round at a negated one reads and writes. -/
theorem Lo2.neg {w : World} {base S N G X : Nat} {cs : List Cp} {k : Nat} (h : Lo2 w base S N G X cs k) (hn : negB cs k = true) (hk : k < cs.length) (hs : stA cs k < stg cs) :
    ∃ g cap, w.cell? ⟨S, stA cs k * 7 + 3, none⟩ = some (.slice (some ⟨g, 0, none⟩) (ngI cs cs.length (stA cs k)).length cap) ∧ (ngI cs k (stA cs k)).length < (ngI cs cs.length (stA cs k)).length ∧
      w.cell? ⟨X, stA cs k, none⟩ = some (.int .i64 ((ngI cs k (stA cs k)).length : Nat)) ∧
      w.cell? ⟨N, k, none⟩ = some (.pointer none) ∧ w.frozen? ⟨N, k, none⟩ = false ∧ w.frozen? ⟨X, stA cs k, none⟩ = false ∧ N ≠ X ∧
      Lo2 ((w.setCell ⟨N, k, none⟩ (.pointer (some ⟨g, (ngI cs k (stA cs k)).length * 3, none⟩))).setCell ⟨X, stA cs k, none⟩ (.int .i64 (((ngI cs k (stA cs k)).length : Nat) + 1))) base S N G X cs (k + 1) := by
  obtain ⟨bS, bN, bG, bX, hG, hX, T, U, Pl, nb, cap, junk, hN, hS, hB, hI, hT⟩ := h
  have hne := ngI_ne hk hn
  have hlt : (ngI cs k (stA cs k)).length < (ngI cs cs.length (stA cs k)).length := by
    have hmono : ∀ j, k + 1 ≤ j → (ngI cs (k + 1) (stA cs k)).length ≤ (ngI cs j (stA cs k)).length := by
      intro j hj
      induction j with
      | zero => omega
      | succ j ih =>
        rcases Nat.lt_or_ge k j with h | h
        · have := ih (by omega)
          rw [ngI_succ cs j, List.length_append]
          omega
        · have : j = k := by omega
          subst this
          exact Nat.le_refl _
    have h1 := hmono cs.length (by omega)
    rw [ngI_succ, hn] at h1
    simp at h1
    omega
  have c3 : cellS T U Pl (nv cs nb cap) nilV nilV nilV (stA cs k * 7 + 3) = .slice (some ⟨nb (stA cs k), 0, none⟩) (ngI cs cs.length (stA cs k)).length (cap (stA cs k)) := by
    rw [cellS_at3]
    unfold nv
    rw [if_neg hne]
  have nNX : N ≠ X := rowIs_ne hN hX (by decide)
  have nSN : S ≠ N := rowIs_ne hS hN (by decide)
  have nSX : S ≠ X := rowIs_ne hS hX (by decide)
  have nGN : G ≠ N := fun h => rowIs_blk_ne hN hG (by decide) h.symm
  have nGX : G ≠ X := fun h => rowIs_blk_ne hX hG (by decide) h.symm
  refine ⟨nb (stA cs k), cap (stA cs k), ?_, hlt, hX.cell hs, ?_, hN.frozen k, hX.frozen _, nNX, bS, bN, bG, bX, blk_far (blk_far hG (p := ⟨N, k, none⟩) nGN _) (p := ⟨X, stA cs k, none⟩) nGX _, ?_, T, U, Pl, nb, cap, junk, ?_, (hS.setOther (a := ⟨N, k, none⟩) nSN _).setOther (a := ⟨X, stA cs k, none⟩) nSX _, ?_, hI, hT⟩
  · rw [hS.cell (by omega), c3]
  · rw [hN.cell hk]
    unfold ptrN
    rw [if_neg (by omega)]
  · refine ((hX.setOther (a := ⟨N, k, none⟩) (fun h => nNX h.symm) _).set (stA cs k) _).congr (fun s _ => ?_)
    by_cases h : s = stA cs k
    · subst h
      rw [if_pos rfl, ngI_succ, hn]
      simp
    · rw [if_neg h, ngI_succ, hn]
      simp [show ¬ stA cs k = s from fun e => h e.symm]
  · refine ((hN.set k _).setOther (a := ⟨X, stA cs k, none⟩) nNX _).congr (fun i _ => ?_)
    by_cases h : i = k
    · subst h
      rw [if_pos rfl]
      unfold ptrN
      rw [if_pos ⟨by omega, hn⟩]
    · rw [if_neg h]
      unfold ptrN
      have : (i < k + 1 ∧ negB cs i = true) ↔ (i < k ∧ negB cs i = true) := by
        constructor <;> (rintro ⟨a, b⟩; exact ⟨by omega, b⟩)
      simp only [this]
  · intro s hs'
    obtain ⟨h1, h2, h3⟩ := hB s hs'
    exact ⟨h1, h2, (h3.setOther (a := ⟨N, k, none⟩) (rowIs_ne h3 hN (by decide)) _).setOther (a := ⟨X, stA cs k, none⟩) (rowIs_ne h3 hX (by decide)) _⟩
end Go.Proofs.Ytgnifglolbfamaa

/- The walk of place.layoutOf. -/
set_option linter.unusedVariables false
set_option linter.unusedSimpArgs false
namespace Go.Proofs.Ytgnifglolbfamaa
open Go.RowKit Go.Proofs.YtgnifglolbfamaaW.PrintWords

section
variable {ops : Array Oper} {o : Oper} {a : Act} {Q : Exit → Act → World → Prop} {K : Act → World → Prop} {E : Prop}
/-- append of a negated one, as a step of a region that draws its order. -/
theorem step_ng {w0 W : World} (base : Nat) (hgd : o.guard = none) (s x : Operand) (ho : o.op = .call { callee := .builtin .append, args := #[s, x], argTypes := #[69, 69] })
    (v : Value) (xs : List Ng) (y : Ng) (t u : ByteArray) (ht : t = y.f0) (hu : u = y.f1) (ok : Nat → Prop) (hfresh : ∀ k, W.heap.size ≤ k → ok k) (hs : a.eval s = v) (hx : a.eval x = .slice (some ⟨W.heap.size, 0, none⟩) 1 1)
    (HO : kN0.R 73 W base ok v xs) (HB : Below base w0 W) (hbase : base ≤ W.heap.size) (hl : (xs.length + 1) * 56 ≤ 140737488355328)
    (h : ∀ v1 w1, kN0.R 73 w1 base ok v1 (xs ++ [y]) → Below base w0 w1 → W.grownBy w1 v.ownBlock → K (a.put o.dst v1) w1) :
    if Region.wanted o (yielded ops a.tmps) = true then Oper.wp Try.prog o a (W.alloc (.cells #[.string t, .string u, .slice none 0 0] 73)).drew K Q else E := by
  subst ht; subst hu
  have hw : Region.wanted o (yielded ops a.tmps) = true := by simp [Region.wanted, hgd]
  have := Kd.R_append_step (P := Try.prog) (ops := ops) (o := o) (a := a) (Q := Q) (Kc := K) kN0 (w0 := w0) (W := W.drew) base hw s x 69 73 _ 56 ho Try.underlying69 infoNg rfl (by decide) (by omega) v xs y [.string y.f0, .string y.f1, .slice none 0 0] ok (fun _ => False) hs hx rfl (fun _ h => h.elim) hfresh (Kd.R_below HO (below_drew (Below.refl _ _))) (below_drew HB) hbase hl
    (fun v1 w1 h1 h2 h3 _ => h v1 w1 h1 h2 ⟨h3.os, h3.tape, h3.output, h3.size, h3.block⟩)
  rw [if_pos hw] at this ⊢
  exact this
end

def LoPost (cs : List Cp) (w : World) (e : Ending) (w' : World) : Prop := Below w.heap.size w w' ∧ ∃ G, e = .returned (.pointer (some ⟨G, 0, none⟩)) ∧ ∃ S N X, Lo2 w' w.heap.size S N G X cs cs.length

theorem z7_cells (n : Nat) (W : World) : (W.alloc (.cells (madeCells z7 (n * 7)) 71)).rowIs W.heap.size 71 (n * 7) (cellS (fun _ => ⟨#[]⟩) (fun _ => ⟨#[]⟩) (fun _ => false) nilV nilV nilV nilV) := by
  refine ⟨_, blk_new _ _, size_madeCells _ _, fun i hi => ?_⟩
  have h7 : i % 7 < 7 := Nat.mod_lt _ (by omega)
  have : (madeCells z7 (n * 7))[i]? = some (z7[i % 7]!) := by simp [madeCells, hi, z7]
  rw [this]
  unfold cellS nilV
  have hc : i % 7 = 0 ∨ i % 7 = 1 ∨ i % 7 = 2 ∨ i % 7 = 3 ∨ i % 7 = 4 ∨ i % 7 = 5 ∨ i % 7 = 6 := by omega
  rcases hc with h | h | h | h | h | h | h <;> rw [h] <;> rfl

theorem lo1_zero {w : World} {base S N G : Nat} {cs : List Cp} (bS : base ≤ S) (bN : base ≤ N) (bG : base ≤ G)
    (hG : w.heap[G]? = some (.cells #[.slice (some ⟨S, 0, none⟩) (stg cs) (stg cs), .slice (some ⟨N, 0, none⟩) cs.length cs.length, .slice none 0 0] 102 (0, 0)))
    (hN : w.rowIs N 132 cs.length (fun _ => .pointer none)) (hS : w.rowIs S 71 (stg cs * 7) (cellS (fun _ => ⟨#[]⟩) (fun _ => ⟨#[]⟩) (fun _ => false) nilV nilV nilV nilV)) : Lo1 w base S N G cs 0 :=
  ⟨bS, bN, bG, hG, hN, _, _, _, nilV, fun _ => 0, hS, fun s => Kd.R_nil _ _ _ _ _, fun _ _ => rfl, fun i h => absurd h (by omega)⟩
theorem lo1_ab (w : World) (cs : List Cp) (o : Obj)
    (ho : o = .cells #[.slice (some ⟨w.heap.size, 0, none⟩) (stg cs) (stg cs), .slice (some ⟨w.heap.size + 1, 0, none⟩) cs.length cs.length, .slice none 0 0] 102) :
    Lo1 (((w.alloc (Obj.cells (madeCells z7 (stg cs * 7)) 71)).alloc (Obj.cells (madeCells #[.pointer none] cs.length) 132)).alloc o).drew w.heap.size w.heap.size (w.heap.size + 1) (w.heap.size + 1 + 1) cs 0 := by
  subst ho
  have e1 := alloc_size' w (Obj.cells (madeCells z7 (stg cs * 7)) 71)
  have e2 := alloc_size' (w.alloc (Obj.cells (madeCells z7 (stg cs * 7)) 71)) (Obj.cells (madeCells #[.pointer none] cs.length) 132)
  rw [e1] at e2
  have hN := World.rowIs_made (w.alloc (Obj.cells (madeCells z7 (stg cs * 7)) 71)) (.pointer none) cs.length 132
  rw [e1] at hN
  have hG := blk_new ((w.alloc (Obj.cells (madeCells z7 (stg cs * 7)) 71)).alloc (Obj.cells (madeCells #[.pointer none] cs.length) 132)) (.cells #[.slice (some ⟨w.heap.size, 0, none⟩) (stg cs) (stg cs), .slice (some ⟨w.heap.size + 1, 0, none⟩) cs.length cs.length, .slice none 0 0] 102)
  rw [e2] at hG
  exact lo1_zero (by omega) (by omega) (by omega) (blk_drew hG) (rowIs_below (hN) (below_drew (below_new _ _))) (rowIs_below (z7_cells _ w) (below_drew (below_step (below_new _ _) (below_new _ _))))
theorem lo1_ba (w : World) (cs : List Cp) (o : Obj)
    (ho : o = .cells #[.slice (some ⟨w.heap.size + 1, 0, none⟩) (stg cs) (stg cs), .slice (some ⟨w.heap.size, 0, none⟩) cs.length cs.length, .slice none 0 0] 102) :
    Lo1 (((w.alloc (Obj.cells (madeCells #[.pointer none] cs.length) 132)).alloc (Obj.cells (madeCells z7 (stg cs * 7)) 71)).alloc o).drew w.heap.size (w.heap.size + 1) w.heap.size (w.heap.size + 1 + 1) cs 0 := by
  subst ho
  have e1 := alloc_size' w (Obj.cells (madeCells #[.pointer none] cs.length) 132)
  have e2 := alloc_size' (w.alloc (Obj.cells (madeCells #[.pointer none] cs.length) 132)) (Obj.cells (madeCells z7 (stg cs * 7)) 71)
  rw [e1] at e2
  have hS := z7_cells (stg cs) (w.alloc (Obj.cells (madeCells #[.pointer none] cs.length) 132))
  rw [e1] at hS
  have hG := blk_new ((w.alloc (Obj.cells (madeCells #[.pointer none] cs.length) 132)).alloc (Obj.cells (madeCells z7 (stg cs * 7)) 71)) (.cells #[.slice (some ⟨w.heap.size + 1, 0, none⟩) (stg cs) (stg cs), .slice (some ⟨w.heap.size, 0, none⟩) cs.length cs.length, .slice none 0 0] 102)
  rw [e2] at hG
  exact lo1_zero (by omega) (by omega) (by omega) (blk_drew hG) (rowIs_below (World.rowIs_made w (.pointer none) cs.length 132) (below_drew (below_step (below_new _ _) (below_new _ _)))) (rowIs_below hS (below_drew (below_new _ _)))

set_option maxHeartbeats 4000000 in
set_option maxRecDepth 100000 in
theorem layoutOf_any (cs : List Cp) (gp : Nat) (A : Option Addr) (c : Nat) (w : World) (hp : PatAt w gp A c cs) (h8 : cs.length ≤ 8) (h1 : 0 < cs.length) (hlast : negB cs (cs.length - 1) = false) :
    Calls Try.prog 42 #[.pointer (some ⟨gp, 0, none⟩)] w (LoPost cs w) := by
  obtain ⟨gm, Av, cv, h4, h5, h6⟩ := PatAt.parts hp
  have p0 := (blk_cell h4 0).trans rfl
  have p3 := (blk_cell h4 3).trans rfl
  have hst := stg_len cs
  have hstA := stA_lt cs hlast
  have HST := Lib.hid hstA
  have HCP := Lib.hid hp.reads
  have H4 := Lib.hid h4
  have H6 := Lib.hid h6
  have hms := make_sg (stg cs) (by omega)
  have hmn := make_np cs.length (by omega)
  have hmi := make_int (stg cs) (by omega)
  have a0 := pw_cell_below (below_new w (Obj.cells (madeCells #[.pointer none] cs.length) 132)) p0
  have a3 := pw_cell_below (below_new w (Obj.cells (madeCells #[.pointer none] cs.length) 132)) p3
  have b0 := pw_cell_below (below_new w (Obj.cells (madeCells z7 (stg cs * 7)) 71)) p0
  have b3 := pw_cell_below (below_new w (Obj.cells (madeCells z7 (stg cs * 7)) 71)) p3
  clear h4 h5 h6 hstA hp
  go_enter Try.func42, Try.ntmps42
  go_upto_region 1 with fail
  go_cut [3] from 11 to 23 (fun t3 wx => ∃ S N G, t3 = .pointer (some ⟨G, 0, none⟩) ∧ Below w.heap.size w wx ∧ Hid (Lo1 wx w.heap.size S N G cs 0))
  case first =>
    go_region
    all_goals
      go_wp2_with fail
      go_meet
      exact ⟨_, _, _, rfl, below_drew (below_step (below_step (below_new _ _) (below_new _ _)) (below_new _ _)), Lib.hid (by first | exact lo1_ab w cs _ rfl | exact lo1_ba w cs _ rfl)⟩
  case rest =>
    obtain ⟨S, N, G, rfl, hBx, hLx⟩ := hcut
    have hp4 := blk_below H4.out hBx
    have p0 := (blk_cell hp4 0).trans rfl
    have p2 := (blk_cell hp4 2).trans rfl
    have p3 := (blk_cell hp4 3).trans rfl
    clear a0 a3 b0 b3
    go_wp2_with fail
    go_loopw [29] (fun t29 wr => ∃ k : Nat, k ≤ cs.length ∧ t29 = .int .i64 k ∧ Below w.heap.size w wr ∧ Hid (Lo1 wr w.heap.size S N G cs k)) (fun t29 _ => cs.length - (intOf t29).toNat)
    case atStart => exact ⟨0, by omega, rfl, hBx, hLx⟩
    case round =>
      obtain ⟨k, hk, rfl, hB, hO⟩ := hrel
      by_cases hlt : k < cs.length
      · have i1 : (0 : Int) ≤ (k : Int) := by omega
        have i2 : (k : Int) < cs.length := by omega
        obtain ⟨ad, rfl, c0, c1, c2, c3⟩ := atCpN (Kd.C_below HCP.out hB) k hlt hlt
        obtain ⟨av, rfl, v0⟩ := H6.out k hlt
        have v0 := pw_cell_below hB v0
        have HY := Lib.hid (show cs[k] = cpA cs k by simp [cpA, List.getD_eq_getElem?_getD, List.getElem?_eq_getElem hlt])
        generalize cs[k] = y at *
        have hbn := below_new wr (.cells #[.bool y.f0, .bool y.f1, .string y.f2, .string y.f3] 46)
        have hO2 := Lib.hid (hO.out.below hbn)
        have hB2 := below_step hB hbn
        have hZ := blk_new wr (.cells #[.bool y.f0, .bool y.f1, .string y.f2, .string y.f3] 46)
        have hs := HST.out k hlt
        have HSK := Lib.hid (show stg (cs.take k) = stA cs k from rfl)
        have i3 : (0 : Int) ≤ (stA cs k : Int) := by omega
        have i4 : (stA cs k : Int) < (stg cs : Int) := by omega
        rw [HSK.out] at v0
        have hsb : stA cs k ≤ 8 := by omega
        have HSL := Lib.hid hs
        clear hs
        generalize hsk : stA cs k = s at *
        have HSK2 := Lib.hid hsk
        clear hsk
        have g0 := (blk_cell hO2.out.hG 0).trans rfl
        have hp5 := blk_below H4.out hB2
        have p2 := (blk_cell hp5 2).trans rfl
        have v0 := pw_cell_below hbn v0
        go_wp2_with fail
        generalize wr.alloc (.cells #[.bool y.f0, .bool y.f1, .string y.f2, .string y.f3] 46) = W2 at *
        go_quiet (fail)
        have hO3 := Lib.hid (hO2.out.below (pw_below_drewN (Below.refl _ _) nq))
        have hB3 := pw_below_drewN hB2 nq
        have hZ3 := blk_drewN hZ nq
        have z0 := (blk_cell hZ3 0).trans rfl
        have z1 := (blk_cell hZ3 1).trans rfl
        have z2 := (blk_cell hZ3 2).trans rfl
        have z3 := (blk_cell hZ3 3).trans rfl
        generalize W2.drewN nq = W3 at *
        have hsz3 := hB3.size
        obtain ⟨bS, bN, bG, hG, hN, T, U, Pl, V, f, hS, hV, hE, hT⟩ := hO3.out
        have hfS := hS.frozen
        cases hy : y.f0 with
        | true =>
          have hneg : negB cs k = true := by rw [← hy, HY.out]; rfl
          have HNEG := Lib.hid hneg
          obtain ⟨A5, c5, hVs⟩ := Kd.R_slice (hV s)
          have HVS := Lib.hid hVs
          have hs3 := (hS.cell (i := s * 7 + 3) (by have := HSL.out; omega)).trans (by rw [cellS_at3, hVs])
          have hs3b := pw_cell_below (below_new W3 (.cells #[.string y.f2, .string y.f3, .slice none 0 0] 73)) hs3
          have hle : ((ngL cs k s).length + 1) * 56 ≤ 140737488355328 := by
            have := ngI_len cs k s
            unfold ngL; rw [List.length_map]; omega
          have hRW := Kd.R_mono (Kd.R_bound (hV s)) (ok' := fun b => (if W3.heap.size ≤ b then s else f b) = s) (fun b hb => by show (if W3.heap.size ≤ b then s else f b) = s; rw [if_neg (by have := hb.2.2.1; omega)]; exact hb.1)
          rw [hVs] at hRW
          have hfr : ∀ b, W3.heap.size ≤ b → (if W3.heap.size ≤ b then s else f b) = s := fun b hb => if_pos hb
          have hne5 := R_ne_row (hV s) hS (by decide)
          rw [hVs] at hne5
          have HRW := Lib.hid hRW
          have HFR := Lib.hid hfr
          have HLE := Lib.hid hle
          have HNE := Lib.hid hne5
          have HS := Lib.hid hS
          have HG := Lib.hid hG
          have HN := Lib.hid hN
          have HV := Lib.hid hV
          have HE := Lib.hid hE
          have HT := Lib.hid hT
          have HBD := Lib.hid (And.intro bS (And.intro bN bG))
          have HHY := Lib.hid hy
          rw [hy] at z0
          clear hRW hfr hle hne5 hS hG hN hV hE hT hy hneg hVs bS bN bG
          go_wp2_with fail
          go_region_law ((refine step_ng (W := W3) (w0 := w) w.heap.size (by rfl) _ _ (by rfl) _ (ngL cs k s) (ngOf cs k) y.f2 y.f3 (by rw [HY.out]; rfl) (by rw [HY.out]; rfl) _ HFR.out (by rfl) (by rfl) HRW.out hB3 hsz3 HLE.out ?_; intro v5 w5 hR5 hB5 hg5; have hR5 := Lib.hid hR5; have hG5 := Lib.hid hg5; obtain ⟨A6, c6, rfl⟩ := Kd.R_slice hR5.out; have hS5 := rowIs_far HS.out hG5.out HNE.out; have hs5 := (hS5.cell (i := s * 7 + 3) (by have := HSL.out; omega)); have hf5 := hS5.frozen (s * 7 + 3)))
          all_goals
            have hR5' := hR5.out
            rw [List.length_append, List.length_singleton] at hR5'
            have hg6 := hG5.out
            rw [← HVS.out] at hg6
            have hsk := HSK2.out
            subst hsk
            have hL := Lib.hid (Lo1.put_neg HBD.out.1 HBD.out.2.1 HBD.out.2.2 HG.out HN.out HS.out HV.out HE.out HT.out HNEG.out hlt hg6 hR5')
            have hB6 := hB5.setCell (p := ⟨S, stA cs k * 7 + 3, none⟩) HBD.out.1 (.slice A6 ((ngL cs k (stA cs k)).length + 1) c6)
            clear hR5 hR5' hg6 hS5 hs5 hf5 hB5
            generalize w5.setCell ⟨S, stA cs k * 7 + 3, none⟩ (.slice A6 ((ngL cs k (stA cs k)).length + 1) c6) = W6 at *
            go_wp2_with fail
            go_roundw
            case rel => exact ⟨k + 1, by omega, by go_num, hB6, hL⟩
            case measure => simp [intOf]; omega
        | false =>
          have hneg : negB cs k = false := by rw [← hy, HY.out]; rfl
          have hL := Lib.hid (Lo1.put_pos hO3.out hneg hlt)
          have hs0 := hS.cell (i := s * 7) (by have := HSL.out; omega)
          have hs1 := hS.cell (i := s * 7 + 1) (by have := HSL.out; omega)
          have hs2 := hS.cell (i := s * 7 + 2) (by have := HSL.out; omega)
          have hf0 := hfS (s * 7)
          have hf1 := hfS (s * 7 + 1)
          have hf2 := hfS (s * 7 + 2)
          have HBS := Lib.hid bS
          have hn1 : S ≠ wr.heap.size := rowIs_blk_ne hS hZ3 (by decide)
          have hn2 : wr.heap.size ≠ S := fun h => hn1 h.symm
          rw [HSK2.out, ← HY.out] at hL
          rw [hy] at z0
          clear hG hN hS hV hE hT hy hneg bS bN bG hfS
          go_wp2_with fail
          go_region
          have hB6 := ((hB3.setCell (p := ⟨S, s * 7, none⟩) HBS.out (.string y.f2)).setCell (p := ⟨S, s * 7 + 1, none⟩) HBS.out (.string y.f3)).setCell (p := ⟨S, s * 7 + 2, none⟩) HBS.out (.bool y.f1)
          have hL6 := Lib.hid (hL.out.below (below_drew (Below.refl _ _)))
          have hB6 := below_drew hB6
          go_wp2_with fail
          go_roundw
          case rel => exact ⟨k + 1, by omega, by go_num, hB6, hL6⟩
          case measure => simp [intOf]; omega
      · obtain rfl : k = cs.length := by omega
        generalize wr = W4 at *
        have hp5 := blk_below H4.out hB
        have p0 := (blk_cell hp5 0).trans rfl
        have p3 := (blk_cell hp5 3).trans rfl
        have hbn := below_new W4 (.cells (madeCells #[.int .i64 0] (stg cs)) 3)
        have hL2 := Lib.hid ((hO.out.below hbn).to2 (X := W4.heap.size) hB.size (World.rowIs_made W4 (.int .i64 0) (stg cs) 3))
        have hB2 := below_step hB hbn
        have q0 := pw_cell_below hbn p0
        clear hp5
        go_wp2_with fail
        generalize W4.alloc (.cells (madeCells #[.int .i64 0] (stg cs)) 3) = W5 at *
        generalize W4.heap.size = X at *
        go_loopw [88] (fun t88 wr => ∃ k : Nat, k ≤ cs.length ∧ t88 = .int .i64 k ∧ Below w.heap.size w wr ∧ Hid (Lo2 wr w.heap.size S N G X cs k)) (fun t88 _ => cs.length - (intOf t88).toNat)
        case atStart => exact ⟨0, by omega, rfl, hB2, hL2⟩
        case round =>
          clear hB hO hL2 hB2 p0 p3 q0
          obtain ⟨k, hk, rfl, hB, hO⟩ := hrel
          by_cases hlt : k < cs.length
          · have i1 : (0 : Int) ≤ (k : Int) := by omega
            have i2 : (k : Int) < cs.length := by omega
            obtain ⟨ad, rfl, c0, c1, c2, c3⟩ := atCpN (Kd.C_below HCP.out hB) k hlt hlt
            obtain ⟨av, rfl, v0⟩ := H6.out k hlt
            have v0 := pw_cell_below hB v0
            have HY := Lib.hid (show cs[k] = cpA cs k by simp [cpA, List.getD_eq_getElem?_getD, List.getElem?_eq_getElem hlt])
            generalize cs[k] = y at *
            have hbn := below_new wr (.cells #[.bool y.f0, .bool y.f1, .string y.f2, .string y.f3] 46)
            have hO2 := Lib.hid (hO.out.below hbn)
            have hB2 := below_step hB hbn
            have hZ := blk_new wr (.cells #[.bool y.f0, .bool y.f1, .string y.f2, .string y.f3] 46)
            have hs := HST.out k hlt
            have HSK := Lib.hid (show stg (cs.take k) = stA cs k from rfl)
            have i3 : (0 : Int) ≤ (stA cs k : Int) := by omega
            have i4 : (stA cs k : Int) < (stg cs : Int) := by omega
            rw [HSK.out] at v0
            have hsb : stA cs k ≤ 8 := by omega
            have HSL := Lib.hid hs
            clear hs
            have hp5 := blk_below H4.out hB2
            have p2 := (blk_cell hp5 2).trans rfl
            have v0 := pw_cell_below hbn v0
            cases hy : y.f0 with
            | true =>
              have hneg : negB cs k = true := by rw [← hy, HY.out]; rfl
              rw [hy] at c0 hbn hO2 hB2 hZ hp5 p2 v0
              obtain ⟨g, cap, n1, n2, n3, n4, n5, n6, n7, n8⟩ := hO2.out.neg hneg hlt HSL.out
              have hjb := ngI_len cs k (stA cs k)
              have hg := hO2.out.hG
              have g0 := (blk_cell hg 0).trans rfl
              have g1 := (blk_cell hg 1).trans rfl
              have HBN := Lib.hid (And.intro hO2.out.bN hO2.out.bX)
              have n7b : X ≠ N := fun h => n7 h.symm
              have HL := Lib.hid n8
              clear n8 hg hneg
              clear hy
              have i5 : (0 : Int) ≤ ((ngI cs k (stA cs k)).length : Int) := by omega
              have i6 : ((ngI cs k (stA cs k)).length : Int) < ((ngI cs cs.length (stA cs k)).length : Int) := by omega
              generalize (ngI cs k (stA cs k)).length = j at *
              generalize (ngI cs cs.length (stA cs k)).length = jm at *
              generalize stA cs k = s at *
              go_wp2_with fail
              generalize wr.alloc (.cells #[.bool true, .bool y.f1, .string y.f2, .string y.f3] 46) = W6 at *
              go_region
              all_goals
                have hL6 := Lib.hid (HL.out.below (below_drew (Below.refl _ _)))
                have hB6 := below_drew ((hB2.setCell (p := ⟨N, k, none⟩) HBN.out.1 (.pointer (some ⟨g, j * 3, none⟩))).setCell (p := ⟨X, s, none⟩) HBN.out.2 (.int .i64 ((j : Int) + 1)))
                go_wp2_with fail
                go_roundw
                case rel => exact ⟨k + 1, by omega, by go_num, hB6, hL6⟩
                case measure => simp [intOf]; omega
            | false =>
              have hneg : negB cs k = false := by rw [← hy, HY.out]; rfl
              rw [hy] at c0 hbn hO2 hB2 hZ hp5 p2 v0
              have hL := Lib.hid (hO2.out.pos hneg)
              clear hy hneg
              go_wp2_with fail
              go_roundw
              case rel => exact ⟨k + 1, by omega, by go_num, hB2, hL⟩
              case measure => simp [intOf]; omega
          · obtain rfl : k = cs.length := by omega
            go_wp2_with fail
            go_ret
            exact ⟨hB, G, rfl, S, N, X, hO.out⟩
end Go.Proofs.Ytgnifglolbfamaa
