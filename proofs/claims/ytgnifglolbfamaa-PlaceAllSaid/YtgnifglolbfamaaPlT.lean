/- The lists of conditions in a layout: where they lie, and what a condition more leaves. -/
import Derived.Test.YtgnifglolbfamaaPlS
set_option linter.unusedVariables false
set_option linter.unusedSimpArgs false
namespace Go.Proofs.Ytgnifglolbfamaa
open Go.RowKit Go.Proofs.YtgnifglolbfamaaW.PrintWords

def upd2 {α : Type} (F : Nat → Nat → α) (k i : Nat) (v : α) : Nat → Nat → α := fun k' i' => if k' = k ∧ i' = i then v else F k' i'
theorem upd2_same {α : Type} (F : Nat → Nat → α) (k i : Nat) (v : α) : upd2 F k i v k i = v := by simp [upd2]
theorem upd2_kind {α : Type} (F : Nat → Nat → α) (k i : Nat) (v : α) (k' : Nat) (h : k' ≠ k) : upd2 F k i v k' = F k' := by funext i'; simp [upd2, h]
theorem upd2_upd {α : Type} (F : Nat → Nat → α) (k i : Nat) (v : α) : upd2 F k i v k = upd (F k) i v := by funext i'; simp [upd2, upd]

structure LayIn (w : World) (base G : Nat) (cs : List Cp) (L : Nat → Nat → List Ex) (S N : Nat) (T U : Nat → ByteArray) (Pl : Nat → Bool) (nb cap : Nat → Nat) (junk : Nat → Nat → Value) (V : Nat → Nat → Value) (f : Nat → Nat) : Prop where
  bS : base ≤ S
  bN : base ≤ N
  bG : base ≤ G
  hG : w.heap[G]? = some (.cells #[.slice (some ⟨S, 0, none⟩) (stg cs) (stg cs), .slice (some ⟨N, 0, none⟩) cs.length cs.length, V 5 0] 102 (0, 0))
  hN : w.rowIs N 132 cs.length (ptrN cs nb cs.length)
  hS : w.rowIs S 71 (stg cs * 7) (cellS T U Pl (nv cs nb cap) (V 1) (V 2) (V 3))
  hB : ∀ s, ngI cs cs.length s ≠ [] → base ≤ nb s ∧ (ngI cs cs.length s).length ≤ cap s ∧ w.rowIs (nb s) 73 (cap s * 3) (cellN cs s (V 4) (junk s))
  inj : ∀ s s', ngI cs cs.length s ≠ [] → ngI cs cs.length s' ≠ [] → s ≠ s' → nb s ≠ nb s'
  hL : ∀ k i, k < 8 → kEx.R 31 w base (fun b => f b = 8 * i + k) (V k i) (L k i)
  hT : ∀ i, i < cs.length → negB cs i = false → T (stA cs i) = (cpA cs i).f2 ∧ U (stA cs i) = (cpA cs i).f3 ∧ Pl (stA cs i) = (cpA cs i).f1

/-- The addresses of the places. -/
def adr (cs : List Cp) (G S : Nat) (nb : Nat → Nat) (k i : Nat) : Nat × Nat :=
  if k = 1 then (S, i * 7 + 4) else if k = 2 then (S, i * 7 + 5) else if k = 3 then (S, i * 7 + 6) else if k = 4 then (nb (stA cs i), (ngI cs i (stA cs i)).length * 3 + 2) else (G, 2)
def VP (cs : List Cp) (k i : Nat) : Prop := ((k = 1 ∨ k = 2 ∨ k = 3) ∧ i < stg cs) ∨ (k = 4 ∧ i < cs.length ∧ negB cs i = true) ∨ (k = 5 ∧ i = 0)

theorem LayIn.below {w w1 : World} {base G : Nat} {cs : List Cp} {L : Nat → Nat → List Ex} {S N : Nat} {T U : Nat → ByteArray} {Pl : Nat → Bool} {nb cap : Nat → Nat} {junk V : Nat → Nat → Value} {f : Nat → Nat}
    (h : LayIn w base G cs L S N T U Pl nb cap junk V f) (hb : Below w.heap.size w w1) : LayIn w1 base G cs L S N T U Pl nb cap junk V f :=
  ⟨h.bS, h.bN, h.bG, blk_below h.hG hb, rowIs_below h.hN hb, rowIs_below h.hS hb, fun s hs => ⟨(h.hB s hs).1, (h.hB s hs).2.1, rowIs_below (h.hB s hs).2.2 hb⟩, h.inj, fun k i hk => Kd.R_below (h.hL k i hk) hb, h.hT⟩

theorem Lo2.lay {w : World} {base S N G X : Nat} {cs : List Cp} (h : Lo2 w base S N G X cs cs.length) : ∃ T U Pl nb cap junk, LayIn w base G cs (fun _ _ => []) S N T U Pl nb cap junk (fun _ _ => .slice none 0 0) (fun _ => 0) := by
  obtain ⟨h1, h2, h3, h4, h5, h6, T, U, Pl, nb, cap, junk, h7, h8, h9, h10, h11⟩ := h
  exact ⟨T, U, Pl, nb, cap, junk, h1, h2, h3, h5, h7, h8, h9, h10, fun k i _ => Kd.R_nil _ _ _ _ _, h11⟩

theorem ngI_split (cs : List Cp) (i : Nat) (hi : i < cs.length) (hn : negB cs i = true) : ∃ t, ngI cs cs.length (stA cs i) = ngI cs i (stA cs i) ++ i :: t := by
  have : ∀ j, i + 1 ≤ j → ∃ t, ngI cs j (stA cs i) = ngI cs i (stA cs i) ++ i :: t := by
    intro j hj
    induction j with
    | zero => omega
    | succ j ih =>
      rcases Nat.lt_or_ge i j with h | h
      · obtain ⟨t, ht⟩ := ih (by omega)
        rw [ngI_succ, ht]
        exact ⟨t ++ _, by rw [List.append_assoc, List.cons_append]⟩
      · have : j = i := by omega
        subst this
        rw [ngI_succ, hn]
        exact ⟨[], by simp⟩
  exact this _ (by omega)
theorem ngI_at (cs : List Cp) (i : Nat) (hi : i < cs.length) (hn : negB cs i = true) : (ngI cs cs.length (stA cs i))[(ngI cs i (stA cs i)).length]? = some i := by
  obtain ⟨t, ht⟩ := ngI_split cs i hi hn
  rw [ht]
  simp
theorem ngI_nodup (cs : List Cp) (k s : Nat) : (ngI cs k s).Nodup := by
  unfold ngI
  exact List.nodup_range.filter _
theorem nodup_get {l : List Nat} (h : l.Nodup) {a b : Nat} {x : Nat} (ha : l[a]? = some x) (hb : l[b]? = some x) : a = b := by
  obtain ⟨ha1, ha2⟩ := List.getElem?_eq_some_iff.1 ha
  obtain ⟨hb1, hb2⟩ := List.getElem?_eq_some_iff.1 hb
  have hp := List.pairwise_iff_getElem.1 h
  rcases Nat.lt_trichotomy a b with h1 | h1 | h1
  · exact absurd (ha2.trans hb2.symm) (hp a b ha1 hb1 h1)
  · exact h1
  · exact absurd (hb2.trans ha2.symm) (hp b a hb1 ha1 h1)

theorem cellN_at (cs : List Cp) (C junk : Nat → Value) (i r : Nat) (hi : i < cs.length) (hn : negB cs i = true) (hr : r < 3) : cellN cs (stA cs i) C junk ((ngI cs i (stA cs i)).length * 3 + r) = if r = 0 then .string (cpA cs i).f2 else if r = 1 then .string (cpA cs i).f3 else C i := by
  unfold cellN
  rw [show ((ngI cs i (stA cs i)).length * 3 + r) / 3 = (ngI cs i (stA cs i)).length from by omega, ngI_at cs i hi hn, show ((ngI cs i (stA cs i)).length * 3 + r) % 3 = r from by omega]
theorem cellN_set (cs : List Cp) (C junk : Nat → Value) (i : Nat) (hi : i < cs.length) (hn : negB cs i = true) (v : Value) (o : Nat) : (if o = (ngI cs i (stA cs i)).length * 3 + 2 then v else cellN cs (stA cs i) C junk o) = cellN cs (stA cs i) (upd C i v) junk o := by
  by_cases h : o = (ngI cs i (stA cs i)).length * 3 + 2
  · subst h
    rw [if_pos rfl, cellN_at cs _ _ i 2 hi hn (by omega)]
    simp [upd]
  · rw [if_neg h]
    unfold cellN
    cases hj : (ngI cs cs.length (stA cs i))[o / 3]? with
    | none => rfl
    | some i' =>
      by_cases h0 : o % 3 = 0
      · simp [h0]
      by_cases h1 : o % 3 = 1
      · simp [h1]
      simp only [h0, h1, if_false]
      have h2 : o % 3 = 2 := by have := Nat.mod_lt o (show 3 > 0 by omega); omega
      have hne : i' ≠ i := by
        rintro rfl
        have := nodup_get (ngI_nodup cs _ _) hj (ngI_at cs i' hi hn)
        omega
      unfold upd
      rw [if_neg hne]

section
variable {w : World} {base G : Nat} {cs : List Cp} {L : Nat → Nat → List Ex} {S N : Nat} {T U : Nat → ByteArray} {Pl : Nat → Bool} {nb cap : Nat → Nat} {junk V : Nat → Nat → Value} {f : Nat → Nat}
theorem ngI_lt_cap (h : LayIn w base G cs L S N T U Pl nb cap junk V f) (i : Nat) (hi : i < cs.length) (hn : negB cs i = true) : (ngI cs i (stA cs i)).length < cap (stA cs i) := by
  have h1 := (h.hB _ (ngI_ne hi hn)).2.1
  have := (List.getElem?_eq_some_iff.1 (ngI_at cs i hi hn)).1
  omega
/-- The place's cell. -/
theorem LayIn.at_ (h : LayIn w base G cs L S N T U Pl nb cap junk V f) (k i : Nat) (hv : VP cs k i) :
    w.cell? ⟨(adr cs G S nb k i).1, (adr cs G S nb k i).2, none⟩ = some (V k i) ∧ w.frozen? ⟨(adr cs G S nb k i).1, (adr cs G S nb k i).2, none⟩ = false ∧ base ≤ (adr cs G S nb k i).1 ∧ ∃ t cells, t ≠ 31 ∧ w.heap[(adr cs G S nb k i).1]? = some (.cells cells t (0, 0)) := by
  rcases hv with ⟨rfl | rfl | rfl, hi⟩ | ⟨rfl, hi, hn⟩ | ⟨rfl, rfl⟩
  · exact ⟨(h.hS.cell (i := i * 7 + 4) (by omega)).trans (by rw [cellS_at4]), h.hS.frozen _, h.bS, 71, by obtain ⟨c, hc, _⟩ := h.hS; exact ⟨c, by decide, hc⟩⟩
  · exact ⟨(h.hS.cell (i := i * 7 + 5) (by omega)).trans (by rw [cellS_at5]), h.hS.frozen _, h.bS, 71, by obtain ⟨c, hc, _⟩ := h.hS; exact ⟨c, by decide, hc⟩⟩
  · exact ⟨(h.hS.cell (i := i * 7 + 6) (by omega)).trans (by rw [cellS_at6]), h.hS.frozen _, h.bS, 71, by obtain ⟨c, hc, _⟩ := h.hS; exact ⟨c, by decide, hc⟩⟩
  · obtain ⟨h1, h2, h3⟩ := h.hB _ (ngI_ne hi hn)
    have := ngI_lt_cap h i hi hn
    exact ⟨(h3.cell (i := (ngI cs i (stA cs i)).length * 3 + 2) (by omega)).trans (by rw [cellN_at cs _ _ i 2 hi hn (by omega)]; rfl), h3.frozen _, h1, 73, by obtain ⟨c, hc, _⟩ := h3; exact ⟨c, by decide, hc⟩⟩
  · exact ⟨(blk_cell h.hG 2).trans rfl, blk_frozen h.hG 2, h.bG, 102, _, by decide, h.hG⟩

theorem LayIn.put (h : LayIn w base G cs L S N T U Pl nb cap junk V f) {w1 : World} {k i : Nat} {v1 : Value} {xs : List Ex} (hv : VP cs k i) (hg : w.grownBy w1 (V k i).ownBlock)
    (hR : kEx.R 31 w1 base (fun b => (if w.heap.size ≤ b then 8 * i + k else f b) = 8 * i + k) v1 xs) :
    LayIn (w1.setCell ⟨(adr cs G S nb k i).1, (adr cs G S nb k i).2, none⟩ v1) base G cs (upd2 L k i xs) S N T U Pl nb cap junk (upd2 V k i v1) (fun b => if w.heap.size ≤ b then 8 * i + k else f b) := by
  have hk8 : k < 8 := by rcases hv with ⟨h | h | h, _⟩ | ⟨h, _⟩ | ⟨h, _⟩ <;> omega
  have hR0 := h.hL k i hk8
  have G1 := blk_grown h.hG hg (Kd.R_ne hR0 h.hG (by decide))
  have N1 := rowIs_far h.hN hg (R_ne_row hR0 h.hN (by decide))
  have S1 := rowIs_far h.hS hg (R_ne_row hR0 h.hS (by decide))
  have B1 : ∀ s, ngI cs cs.length s ≠ [] → base ≤ nb s ∧ (ngI cs cs.length s).length ≤ cap s ∧ w1.rowIs (nb s) 73 (cap s * 3) (cellN cs s (V 4) (junk s)) :=
    fun s hs => ⟨(h.hB s hs).1, (h.hB s hs).2.1, rowIs_far (h.hB s hs).2.2 hg (R_ne_row hR0 (h.hB s hs).2.2 (by decide))⟩
  -- the lists
  have HL : ∀ (b t : Nat) (cells : Array Value) (j : Nat), t ≠ 31 → w1.heap[b]? = some (.cells cells t (0, 0)) → ∀ k' i', k' < 8 → kEx.R 31 (w1.setCell ⟨b, j, none⟩ v1) base (fun b => (if w.heap.size ≤ b then 8 * i + k else f b) = 8 * i' + k') (upd2 V k i v1 k' i') (upd2 L k i xs k' i') := by
    intro b t cells j ht hb k' i' hk'
    have hq : ∀ q, q ∈ (31 : Nat) :: kEx.E → q ≠ t := by
      intro q hq
      have : q = 31 := by
        have e : kEx.E = [31] := rfl
        rw [e] at hq
        simpa using hq
      omega
    unfold upd2
    by_cases he : k' = k ∧ i' = i
    · obtain ⟨rfl, rfl⟩ := he
      rw [if_pos ⟨rfl, rfl⟩, if_pos ⟨rfl, rfl⟩]
      exact Kd.R_set hR hb hq _ _
    · rw [if_neg he, if_neg he]
      have h1 := Kd.R_mono (Kd.R_bound (h.hL k' i' hk')) (ok' := fun b => f b = 8 * i' + k' ∧ b < w.heap.size) (fun b hb => ⟨hb.1, hb.2.2.1⟩)
      have h2 := Kd.R_grown h1 hg (fun b hb he2 => by
        have := hR0.1 b he2.symm
        simp only at this hb
        have e := hb.1.symm.trans this
        exact he (by omega))
      exact Kd.R_mono (Kd.R_set h2 hb hq _ _) (fun b hb => by show (if w.heap.size ≤ b then 8 * i + k else f b) = 8 * i' + k'; rw [if_neg (by omega)]; exact hb.1)
  obtain ⟨cN, hcN, _⟩ := id N1
  obtain ⟨cS, hcS, _⟩ := id S1
  have nGS : G ≠ S := fun e => rowIs_blk_ne S1 G1 (by decide) e.symm
  have nNS : N ≠ S := rowIs_ne N1 S1 (by decide)
  have nGN : G ≠ N := fun e => rowIs_blk_ne N1 G1 (by decide) e.symm
  have nBS : ∀ s, ngI cs cs.length s ≠ [] → nb s ≠ S := fun s hs => rowIs_ne (B1 s hs).2.2 S1 (by decide)
  have nBN : ∀ s, ngI cs cs.length s ≠ [] → nb s ≠ N := fun s hs => rowIs_ne (B1 s hs).2.2 N1 (by decide)
  have nBG : ∀ s, ngI cs cs.length s ≠ [] → nb s ≠ G := fun s hs => rowIs_blk_ne (B1 s hs).2.2 G1 (by decide)
  rcases hv with ⟨rfl | rfl | rfl, hi⟩ | ⟨rfl, hi, hn⟩ | ⟨rfl, rfl⟩
  · refine ⟨h.bS, h.bN, h.bG, ?_, N1.setOther (a := ⟨S, i * 7 + 4, none⟩) nNS _, ?_, ?_, h.inj, HL S 71 cS (i * 7 + 4) (by decide) hcS, h.hT⟩
    · rw [show upd2 V 1 i v1 5 0 = V 5 0 from by simp [upd2]]; exact blk_far G1 (p := ⟨S, i * 7 + 4, none⟩) nGS _
    · rw [upd2_upd, upd2_kind V 1 i v1 2 (by decide), upd2_kind V 1 i v1 3 (by decide)]
      exact (S1.set (i * 7 + 4) v1).congr (fun o _ => cellS_set4 _ _ _ _ _ _ _ _ _ _)
    · rw [upd2_kind V 1 i v1 4 (by decide)]
      exact fun s hs => ⟨(B1 s hs).1, (B1 s hs).2.1, (B1 s hs).2.2.setOther (a := ⟨S, i * 7 + 4, none⟩) (nBS s hs) _⟩
  · refine ⟨h.bS, h.bN, h.bG, ?_, N1.setOther (a := ⟨S, i * 7 + 5, none⟩) nNS _, ?_, ?_, h.inj, HL S 71 cS (i * 7 + 5) (by decide) hcS, h.hT⟩
    · rw [show upd2 V 2 i v1 5 0 = V 5 0 from by simp [upd2]]; exact blk_far G1 (p := ⟨S, i * 7 + 5, none⟩) nGS _
    · rw [upd2_upd, upd2_kind V 2 i v1 1 (by decide), upd2_kind V 2 i v1 3 (by decide)]
      exact (S1.set (i * 7 + 5) v1).congr (fun o _ => cellS_set5 _ _ _ _ _ _ _ _ _ _)
    · rw [upd2_kind V 2 i v1 4 (by decide)]
      exact fun s hs => ⟨(B1 s hs).1, (B1 s hs).2.1, (B1 s hs).2.2.setOther (a := ⟨S, i * 7 + 5, none⟩) (nBS s hs) _⟩
  · refine ⟨h.bS, h.bN, h.bG, ?_, N1.setOther (a := ⟨S, i * 7 + 6, none⟩) nNS _, ?_, ?_, h.inj, HL S 71 cS (i * 7 + 6) (by decide) hcS, h.hT⟩
    · rw [show upd2 V 3 i v1 5 0 = V 5 0 from by simp [upd2]]; exact blk_far G1 (p := ⟨S, i * 7 + 6, none⟩) nGS _
    · rw [upd2_upd, upd2_kind V 3 i v1 1 (by decide), upd2_kind V 3 i v1 2 (by decide)]
      exact (S1.set (i * 7 + 6) v1).congr (fun o _ => cellS_set6 _ _ _ _ _ _ _ _ _ _)
    · rw [upd2_kind V 3 i v1 4 (by decide)]
      exact fun s hs => ⟨(B1 s hs).1, (B1 s hs).2.1, (B1 s hs).2.2.setOther (a := ⟨S, i * 7 + 6, none⟩) (nBS s hs) _⟩
  · have hne := ngI_ne hi hn
    obtain ⟨b1, b2, b3⟩ := B1 _ hne
    obtain ⟨cB, hcB, _⟩ := id b3
    refine ⟨h.bS, h.bN, h.bG, ?_, N1.setOther (a := ⟨nb (stA cs i), (ngI cs i (stA cs i)).length * 3 + 2, none⟩) (fun e => nBN _ hne e.symm) _, ?_, ?_, h.inj, HL (nb (stA cs i)) 73 cB ((ngI cs i (stA cs i)).length * 3 + 2) (by decide) hcB, h.hT⟩
    · rw [show upd2 V 4 i v1 5 0 = V 5 0 from by simp [upd2]]; exact blk_far G1 (p := ⟨nb (stA cs i), (ngI cs i (stA cs i)).length * 3 + 2, none⟩) (fun e => nBG _ hne e.symm) _
    · rw [upd2_kind V 4 i v1 1 (by decide), upd2_kind V 4 i v1 2 (by decide), upd2_kind V 4 i v1 3 (by decide)]
      exact S1.setOther (a := ⟨nb (stA cs i), (ngI cs i (stA cs i)).length * 3 + 2, none⟩) (fun e => nBS _ hne e.symm) _
    · intro s hs
      obtain ⟨c1, c2, c3⟩ := B1 s hs
      refine ⟨c1, c2, ?_⟩
      rw [upd2_upd]
      by_cases hss : s = stA cs i
      · subst hss
        exact (c3.set ((ngI cs i (stA cs i)).length * 3 + 2) v1).congr (fun o _ => cellN_set cs _ _ i hi hn _ _)
      · refine (c3.setOther (a := ⟨nb (stA cs i), (ngI cs i (stA cs i)).length * 3 + 2, none⟩) (h.inj s _ hs hne hss) _).congr (fun o _ => ?_)
        unfold cellN
        cases hj : (ngI cs cs.length s)[o / 3]? with
        | none => rfl
        | some i' =>
          have hm := ngI_lt (List.mem_of_getElem? hj)
          have : i' ≠ i := by rintro rfl; exact hss hm.2.2.symm
          simp [upd, this]
  · refine ⟨h.bS, h.bN, h.bG, ?_, N1.setOther (a := ⟨G, 2, none⟩) (fun e => nGN e.symm) _, ?_, ?_, h.inj, HL G 102 _ 2 (by decide) G1, h.hT⟩
    · rw [upd2_same]
      exact blk_set G1 2 v1
    · rw [upd2_kind V 5 0 v1 1 (by decide), upd2_kind V 5 0 v1 2 (by decide), upd2_kind V 5 0 v1 3 (by decide)]
      exact S1.setOther (a := ⟨G, 2, none⟩) (fun e => nGS e.symm) _
    · rw [upd2_kind V 5 0 v1 4 (by decide)]
      exact fun s hs => ⟨(B1 s hs).1, (B1 s hs).2.1, (B1 s hs).2.2.setOther (a := ⟨G, 2, none⟩) (nBG s hs) _⟩
end
end Go.Proofs.Ytgnifglolbfamaa
