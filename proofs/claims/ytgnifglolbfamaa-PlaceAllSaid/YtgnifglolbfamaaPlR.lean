/- The stages, as place.layoutOf leaves them, and the lists of conditions in them. -/
import Derived.Test.YtgnifglolbfamaaPlQ
set_option linter.unusedVariables false
set_option linter.unusedSimpArgs false
namespace Go.Proofs.Ytgnifglolbfamaa
open Go.RowKit Go.Proofs.YtgnifglolbfamaaW.PrintWords

def ptrN (cs : List Cp) (nb : Nat → Nat) (k i : Nat) : Value :=
  if i < k ∧ negB cs i = true then .pointer (some ⟨nb (stA cs i), (ngI cs i (stA cs i)).length * 3, none⟩) else .pointer none
def nv (cs : List Cp) (nb cap : Nat → Nat) (s : Nat) : Value :=
  if ngI cs cs.length s = [] then .slice none 0 0 else .slice (some ⟨nb s, 0, none⟩) (ngI cs cs.length s).length (cap s)
def cellN (cs : List Cp) (s : Nat) (C junk : Nat → Value) (o : Nat) : Value :=
  match (ngI cs cs.length s)[o / 3]? with
  | some i => if o % 3 = 0 then .string (cpA cs i).f2 else if o % 3 = 1 then .string (cpA cs i).f3 else C i
  | none => junk o

structure Lo2 (w : World) (base S N G X : Nat) (cs : List Cp) (k : Nat) : Prop where
  bS : base ≤ S
  bN : base ≤ N
  bG : base ≤ G
  bX : base ≤ X
  hG : w.heap[G]? = some (.cells #[.slice (some ⟨S, 0, none⟩) (stg cs) (stg cs), .slice (some ⟨N, 0, none⟩) cs.length cs.length, .slice none 0 0] 102 (0, 0))
  hX : w.rowIs X 3 (stg cs) (fun s => .int .i64 ((ngI cs k s).length : Nat))
  ex : ∃ (T U : Nat → ByteArray) (Pl : Nat → Bool) (nb cap : Nat → Nat) (junk : Nat → Nat → Value),
    w.rowIs N 132 cs.length (ptrN cs nb k) ∧
    w.rowIs S 71 (stg cs * 7) (cellS T U Pl (nv cs nb cap) nilV nilV nilV) ∧
    (∀ s, ngI cs cs.length s ≠ [] → base ≤ nb s ∧ (ngI cs cs.length s).length ≤ cap s ∧ w.rowIs (nb s) 73 (cap s * 3) (cellN cs s nilV (junk s))) ∧
    (∀ s s', ngI cs cs.length s ≠ [] → ngI cs cs.length s' ≠ [] → s ≠ s' → nb s ≠ nb s') ∧
    (∀ i, i < cs.length → negB cs i = false → T (stA cs i) = (cpA cs i).f2 ∧ U (stA cs i) = (cpA cs i).f3 ∧ Pl (stA cs i) = (cpA cs i).f1)

theorem neg_list {w : World} {base : Nat} {ok : Nat → Prop} {v : Value} {cs : List Cp} {s : Nat} (h : kN0.R 73 w base ok v (ngL cs cs.length s)) (hne : ngI cs cs.length s ≠ []) :
    ∃ g cap junk, v = .slice (some ⟨g, 0, none⟩) (ngI cs cs.length s).length cap ∧ base ≤ g ∧ (ngI cs cs.length s).length ≤ cap ∧ ok g ∧ w.rowIs g 73 (cap * 3) (cellN cs s nilV junk) := by
  obtain ⟨A, c, hv, hc, hC⟩ := Kd.R_reads h
  obtain ⟨inner, hl, ho⟩ := Kd.R_own h
  have hll : (ngL cs cs.length s).length = (ngI cs cs.length s).length := by unfold ngL; rw [List.length_map]
  have hlp : 0 < (ngI cs cs.length s).length := by
    rcases Nat.eq_zero_or_pos (ngI cs cs.length s).length with h0 | h0
    · exact absurd (List.length_eq_zero_iff.1 h0) hne
    · exact h0
  rcases ho with ⟨rfl, h0⟩ | ⟨g, cap, cur, hv2, hb, hh, hnc, hcm, hsz, htk⟩
  · omega
  · rw [hll] at hv2
    have hA : A = some ⟨g, 0, none⟩ := by
      rw [hv] at hv2
      injection hv2 with h1 _ _
    refine ⟨g, cap, fun o => cur.getD o undef, hv2, hb, by omega, h.1 g (by rw [hv2]; simp [Value.ownBlock]), cur, hh, hsz, ?_⟩
    intro o ho
    have hcur : ∀ u, w.cell? ⟨g, o, none⟩ = some u → cur[o]? = some u := by
      intro u hu
      rw [blk_cell hh] at hu
      exact hu
    unfold cellN
    cases hj : (ngI cs cs.length s)[o / 3]? with
    | none =>
      have ho2 : o < cur.size := by rw [hsz]; exact ho
      simp [Array.getD, ho2]
    | some i =>
      obtain ⟨hjl, hji⟩ := List.getElem?_eq_some_iff.1 hj
      obtain ⟨ad, cc, e, _, hK, hc0⟩ := Kd.C_get hC zNg ((o / 3 : Nat) : Int) (by omega) (by omega)
      rw [hA] at e
      injection e with e
      subst e
      have hget : (ngL cs cs.length s).getD (((o / 3 : Nat) : Int)).toNat zNg = ngOf cs i := by
        unfold ngL
        rw [Int.toNat_natCast, List.getD_eq_getElem?_getD, List.getElem?_map, hj]
        rfl
      rw [hget] at hK
      have hK2 : cc = [.string (cpA cs i).f2, .string (cpA cs i).f3, .slice none 0 0] := hK
      subst hK2
      have hm : o % 3 < 3 := Nat.mod_lt _ (by omega)
      have ha : ∀ r, (Addr.add ⟨g, 0, none⟩ ((((o / 3 : Nat) : Int)).toNat * kN0.sz + r)) = ⟨g, o / 3 * 3 + r, none⟩ := by
        intro r
        rw [Int.toNat_natCast]
        show Addr.add ⟨g, 0, none⟩ (o / 3 * 3 + r) = _
        simp only [Addr.add]
        split
        · rename_i h; rw [h]
        · simp
      by_cases h0 : o % 3 = 0
      · simp only [h0, if_true]
        have := hc0 0 _ rfl
        rw [ha, show o / 3 * 3 + 0 = o from by omega] at this
        exact hcur _ this
      · by_cases h1 : o % 3 = 1
        · simp only [h1]
          have := hc0 1 _ rfl
          rw [ha, show o / 3 * 3 + 1 = o from by omega] at this
          exact hcur _ this
        · simp only [h0, h1, if_false]
          have := hc0 2 _ rfl
          rw [ha, show o / 3 * 3 + 2 = o from by omega] at this
          exact hcur _ this

theorem Lo1.to2 {w : World} {base S N G X : Nat} {cs : List Cp} (h : Lo1 w base S N G cs cs.length) (bX : base ≤ X) (hX : w.rowIs X 3 (stg cs) (fun _ => .int .i64 0)) : Lo2 w base S N G X cs 0 := by
  obtain ⟨bS, bN, bG, hG, hN, T, U, Pl, V, f, hS, hV, hE, hT⟩ := h
  have hch : ∀ s, ∃ q : Nat × Nat × (Nat → Value), ngI cs cs.length s ≠ [] → V s = .slice (some ⟨q.1, 0, none⟩) (ngI cs cs.length s).length q.2.1 ∧ base ≤ q.1 ∧ (ngI cs cs.length s).length ≤ q.2.1 ∧ f q.1 = s ∧ w.rowIs q.1 73 (q.2.1 * 3) (cellN cs s nilV q.2.2) := by
    intro s
    by_cases hne : ngI cs cs.length s = []
    · exact ⟨(0, 0, nilV), fun h => absurd hne h⟩
    · obtain ⟨g, cap, junk, h1, h2, h3, h4, h5⟩ := neg_list (hV s) hne
      exact ⟨(g, cap, junk), fun _ => ⟨h1, h2, h3, h4, h5⟩⟩
  obtain ⟨Q, hQ⟩ := Classical.axiomOfChoice hch
  refine ⟨bS, bN, bG, bX, hG, hX.congr (fun i _ => by simp [ngI]), T, U, Pl, fun s => (Q s).1, fun s => (Q s).2.1, fun s => (Q s).2.2, hN.congr (fun i _ => by simp [ptrN]), hS.congr (fun o _ => ?_), ?_, ?_, hT⟩
  · congr 1
    funext s
    unfold nv
    by_cases hne : ngI cs cs.length s = []
    · rw [if_pos hne]; exact hE s hne
    · rw [if_neg hne]; exact (hQ s hne).1
  · intro s hne
    exact ⟨(hQ s hne).2.1, (hQ s hne).2.2.1, (hQ s hne).2.2.2.2⟩
  · intro s s' h1 h2 hss he
    have e1 := (hQ s h1).2.2.2.1
    have e2 := (hQ s' h2).2.2.2.1
    have he2 : (Q s).1 = (Q s').1 := he
    rw [he2, e2] at e1
    exact hss e1.symm

theorem ngI_ne {cs : List Cp} {k : Nat} (hk : k < cs.length) (hn : negB cs k = true) : ngI cs cs.length (stA cs k) ≠ [] := by
  intro h
  have : k ∈ ngI cs cs.length (stA cs k) := by
    unfold ngI
    rw [List.mem_filter, List.mem_range]
    exact ⟨hk, by simp [hn]⟩
  rw [h] at this
  exact absurd this (by simp)

theorem Lo2.below {w w1 : World} {base S N G X : Nat} {cs : List Cp} {k : Nat} (h : Lo2 w base S N G X cs k) (hb : Below w.heap.size w w1) : Lo2 w1 base S N G X cs k := by
  obtain ⟨h1, h2, h3, h4, h5, h6, T, U, Pl, nb, cap, junk, h7, h8, h9, h10, h11⟩ := h
  exact ⟨h1, h2, h3, h4, blk_below h5 hb, rowIs_below h6 hb, T, U, Pl, nb, cap, junk, rowIs_below h7 hb, rowIs_below h8 hb, fun s hs => ⟨(h9 s hs).1, (h9 s hs).2.1, rowIs_below (h9 s hs).2.2 hb⟩, h10, h11⟩

theorem Lo2.pos {w : World} {base S N G X : Nat} {cs : List Cp} {k : Nat} (h : Lo2 w base S N G X cs k) (hn : negB cs k = false) : Lo2 w base S N G X cs (k + 1) := by
  obtain ⟨h1, h2, h3, h4, h5, h6, T, U, Pl, nb, cap, junk, h7, h8, h9, h10, h11⟩ := h
  refine ⟨h1, h2, h3, h4, h5, h6.congr (fun i _ => by rw [ngI_succ, hn]; simp), T, U, Pl, nb, cap, junk, h7.congr (fun i _ => ?_), h8, h9, h10, h11⟩
  unfold ptrN
  by_cases hi : negB cs i = true
  · have : i ≠ k := by rintro rfl; rw [hn] at hi; exact absurd hi (by decide)
    have : (i < k + 1 ∧ negB cs i = true) ↔ (i < k ∧ negB cs i = true) := by
      constructor <;> (rintro ⟨a, b⟩; exact ⟨by omega, b⟩)
    simp only [this]
  · rw [if_neg (fun h => hi h.2), if_neg (fun h => hi h.2)]

/-- What a round at a negated one reads and writes. -/
theorem Lo2.neg {w : World} {base S N G X : Nat} {cs : List Cp} {k : Nat} (h : Lo2 w base S N G X cs k) (hn : negB cs k = true) (hk : k < cs.length) (hs : stA cs k < stg cs) :
    ∃ g cap, w.cell? ⟨S, stA cs k * 7 + 3, none⟩ = some (.slice (some ⟨g, 0, none⟩) (ngI cs cs.length (stA cs k)).length cap) ∧ (ngI cs k (stA cs k)).length < (ngI cs cs.length (stA cs k)).length ∧
      w.cell? ⟨X, stA cs k, none⟩ = some (.int .i64 ((ngI cs k (stA cs k)).length : Nat)) ∧
      w.cell? ⟨N, k, none⟩ = some (.pointer none) ∧ w.frozen? ⟨N, k, none⟩ = false ∧ w.frozen? ⟨X, stA cs k, none⟩ = false ∧ N ≠ X ∧
      Lo2 ((w.setCell ⟨N, k, none⟩ (.pointer (some ⟨g, (ngI cs k (stA cs k)).length * 3, none⟩))).setCell ⟨X, stA cs k, none⟩ (.int .i64 (((ngI cs k (stA cs k)).length : Nat) + 1))) base S N G X cs (k + 1) := by
  obtain ⟨bS, bN, bG, bX, hG, hX, T, U, Pl, nb, cap, junk, hN, hS, hB, hI, hT⟩ := h
  have hne := ngI_ne hk hn
  have hlt : (ngI cs k (stA cs k)).length < (ngI cs cs.length (stA cs k)).length := by
    have hmono : ∀ j, k + 1 ≤ j → (ngI cs (k + 1) (stA cs k)).length ≤ (ngI cs j (stA cs k)).length := by
      intro j hj
      induction j with
      | zero => omega
      | succ j ih =>
        rcases Nat.lt_or_ge k j with h | h
        · have := ih (by omega)
          rw [ngI_succ cs j, List.length_append]
          omega
        · have : j = k := by omega
          subst this
          exact Nat.le_refl _
    have h1 := hmono cs.length (by omega)
    rw [ngI_succ, hn] at h1
    simp at h1
    omega
  have c3 : cellS T U Pl (nv cs nb cap) nilV nilV nilV (stA cs k * 7 + 3) = .slice (some ⟨nb (stA cs k), 0, none⟩) (ngI cs cs.length (stA cs k)).length (cap (stA cs k)) := by
    rw [cellS_at3]
    unfold nv
    rw [if_neg hne]
  have nNX : N ≠ X := rowIs_ne hN hX (by decide)
  have nSN : S ≠ N := rowIs_ne hS hN (by decide)
  have nSX : S ≠ X := rowIs_ne hS hX (by decide)
  have nGN : G ≠ N := fun h => rowIs_blk_ne hN hG (by decide) h.symm
  have nGX : G ≠ X := fun h => rowIs_blk_ne hX hG (by decide) h.symm
  refine ⟨nb (stA cs k), cap (stA cs k), ?_, hlt, hX.cell hs, ?_, hN.frozen k, hX.frozen _, nNX, bS, bN, bG, bX, blk_far (blk_far hG (p := ⟨N, k, none⟩) nGN _) (p := ⟨X, stA cs k, none⟩) nGX _, ?_, T, U, Pl, nb, cap, junk, ?_, (hS.setOther (a := ⟨N, k, none⟩) nSN _).setOther (a := ⟨X, stA cs k, none⟩) nSX _, ?_, hI, hT⟩
  · rw [hS.cell (by omega), c3]
  · rw [hN.cell hk]
    unfold ptrN
    rw [if_neg (by omega)]
  · refine ((hX.setOther (a := ⟨N, k, none⟩) (fun h => nNX h.symm) _).set (stA cs k) _).congr (fun s _ => ?_)
    by_cases h : s = stA cs k
    · subst h
      rw [if_pos rfl, ngI_succ, hn]
      simp
    · rw [if_neg h, ngI_succ, hn]
      simp [show ¬ stA cs k = s from fun e => h e.symm]
  · refine ((hN.set k _).setOther (a := ⟨X, stA cs k, none⟩) nNX _).congr (fun i _ => ?_)
    by_cases h : i = k
    · subst h
      rw [if_pos rfl]
      unfold ptrN
      rw [if_pos ⟨by omega, hn⟩]
    · rw [if_neg h]
      unfold ptrN
      have : (i < k + 1 ∧ negB cs i = true) ↔ (i < k ∧ negB cs i = true) := by
        constructor <;> (rintro ⟨a, b⟩; exact ⟨by omega, b⟩)
      simp only [this]
  · intro s hs'
    obtain ⟨h1, h2, h3⟩ := hB s hs'
    exact ⟨h1, h2, (h3.setOther (a := ⟨N, k, none⟩) (rowIs_ne h3 hN (by decide)) _).setOther (a := ⟨X, stA cs k, none⟩) (rowIs_ne h3 hX (by decide)) _⟩
end Go.Proofs.Ytgnifglolbfamaa
