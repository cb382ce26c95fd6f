/- Texts of the claim, merged in build order: PlT, PlZ, PmC, PmF. -/
import Derived.Test.YtgnifglolbfamaaZAF
import Derived.Test.YtgnifglolbfamaaZAE
/- The lists of conditions in a layout: where they lie, and what a condition more leaves. -/
set_option linter.unusedVariables false
set_option linter.unusedSimpArgs false
namespace Go.Proofs.Ytgnifglolbfamaa
open Go.RowKit Go.Proofs.YtgnifglolbfamaaW.PrintWords

def upd2 {α : Type} (F : Nat → Nat → α) (k i : Nat) (v : α) : Nat → Nat → α := fun k' i' => if k' = k ∧ i' = i then v else F k' i'
theorem upd2_same {α : Type} (F : Nat → Nat → α) (k i : Nat) (v : α) : upd2 F k i v k i = v := by simp [upd2]
theorem upd2_kind {α : Type} (F : Nat → Nat → α) (k i : Nat) (v : α) (k' : Nat) (h : k' ≠ k) : upd2 F k i v k' = F k' := by funext i'; simp [upd2, h]
theorem upd2_upd {α : Type} (F : Nat → Nat → α) (k i : Nat) (v : α) : upd2 F k i v k = upd (F k) i v := by funext i'; simp [upd2, upd]

structure LayIn (w : World) (base G : Nat) (cs : List Cp) (L : Nat → Nat → List Ex) (S N : Nat) (T U : Nat → ByteArray) (Pl : Nat → Bool) (nb cap : Nat → Nat) (junk : Nat → Nat → Value) (V : Nat → Nat → Value) (f : Nat → Nat) : Prop where
  bS : base ≤ S
  bN : base ≤ N
  bG : base ≤ G
  hG : w.heap[G]? = some (.cells #[.slice (some ⟨S, 0, none⟩) (stg cs) (stg cs), .slice (some ⟨N, 0, none⟩) cs.length cs.length, V 5 0] 102 (0, 0))
  hN : w.rowIs N 132 cs.length (ptrN cs nb cs.length)
  hS : w.rowIs S 71 (stg cs * 7) (cellS T U Pl (nv cs nb cap) (V 1) (V 2) (V 3))
  hB : ∀ s, ngI cs cs.length s ≠ [] → base ≤ nb s ∧ (ngI cs cs.length s).length ≤ cap s ∧ w.rowIs (nb s) 73 (cap s * 3) (cellN cs s (V 4) (junk s))
  inj : ∀ s s', ngI cs cs.length s ≠ [] → ngI cs cs.length s' ≠ [] → s ≠ s' → nb s ≠ nb s'
  hL : ∀ k i, k < 8 → kEx.R 31 w base (fun b => f b = 8 * i + k) (V k i) (L k i)
  hT : ∀ i, i < cs.length → negB cs i = false → T (stA cs i) = (cpA cs i).f2 ∧ U (stA cs i) = (cpA cs i).f3 ∧ Pl (stA cs i) = (cpA cs i).f1

/-- The addresses of the places. -/
def adr (cs : List Cp) (G S : Nat) (nb : Nat → Nat) (k i : Nat) : Nat × Nat :=
  if k = 1 then (S, i * 7 + 4) else if k = 2 then (S, i * 7 + 5) else if k = 3 then (S, i * 7 + 6) else if k = 4 then (nb (stA cs i), (ngI cs i (stA cs i)).length * 3 + 2) else (G, 2)
def VP (cs : List Cp) (k i : Nat) : Prop := ((k = 1 ∨ k = 2 ∨ k = 3) ∧ i < stg cs) ∨ (k = 4 ∧ i < cs.length ∧ negB cs i = true) ∨ (k = 5 ∧ i = 0)

theorem LayIn.below {w w1 : World} {base G : Nat} {cs : List Cp} {L : Nat → Nat → List Ex} {S N : Nat} {T U : Nat → ByteArray} {Pl : Nat → Bool} {nb cap : Nat → Nat} {junk V : Nat → Nat → Value} {f : Nat → Nat}
    (h : LayIn w base G cs L S N T U Pl nb cap junk V f) (hb : Below w.heap.size w w1) : LayIn w1 base G cs L S N T U Pl nb cap junk V f :=
  ⟨h.bS, h.bN, h.bG, blk_below h.hG hb, rowIs_below h.hN hb, rowIs_below h.hS hb, fun s hs => ⟨(h.hB s hs).1, (h.hB s hs).2.1, rowIs_below (h.hB s hs).2.2 hb⟩, h.inj, fun k i hk => Kd.R_below (h.hL k i hk) hb, h.hT⟩

theorem Lo2.lay {w : World} {base S N G X : Nat} {cs : List Cp} (h : Lo2 w base S N G X cs cs.length) : ∃ T U Pl nb cap junk, LayIn w base G cs (fun _ _ => []) S N T U Pl nb cap junk (fun _ _ => .slice none 0 0) (fun _ => 0) := by
  obtain ⟨h1, h2, h3, h4, h5, h6, T, U, Pl, nb, cap, junk, h7, h8, h9, h10, h11⟩ := h
  exact ⟨T, U, Pl, nb, cap, junk, h1, h2, h3, h5, h7, h8, fun s hs => ⟨(h9 s hs).1, (h9 s hs).2.1.1, (h9 s hs).2.2⟩, h10, fun k i _ => Kd.R_nil _ _ _ _ _, h11⟩

theorem ngI_split (cs : List Cp) (i : Nat) (hi : i < cs.length) (hn : negB cs i = true) : ∃ t, ngI cs cs.length (stA cs i) = ngI cs i (stA cs i) ++ i :: t := by
  have : ∀ j, i + 1 ≤ j → ∃ t, ngI cs j (stA cs i) = ngI cs i (stA cs i) ++ i :: t := by
    intro j hj
    induction j with
    | zero => omega
    | succ j ih =>
      rcases Nat.lt_or_ge i j with h | h
      · obtain ⟨t, ht⟩ := ih (by omega)
        rw [ngI_succ, ht]
        exact ⟨t ++ _, by rw [List.append_assoc, List.cons_append]⟩
      · have : j = i := by omega
        subst this
        rw [ngI_succ, hn]
        exact ⟨[], by simp⟩
  exact this _ (by omega)
theorem ngI_at (cs : List Cp) (i : Nat) (hi : i < cs.length) (hn : negB cs i = true) : (ngI cs cs.length (stA cs i))[(ngI cs i (stA cs i)).length]? = some i := by
  obtain ⟨t, ht⟩ := ngI_split cs i hi hn
  rw [ht]
  simp
theorem ngI_nodup (cs : List Cp) (k s : Nat) : (ngI cs k s).Nodup := by
  unfold ngI
  exact List.nodup_range.filter _
theorem nodup_get {l : List Nat} (h : l.Nodup) {a b : Nat} {x : Nat} (ha : l[a]? = some x) (hb : l[b]? = some x) : a = b := by
  obtain ⟨ha1, ha2⟩ := List.getElem?_eq_some_iff.1 ha
  obtain ⟨hb1, hb2⟩ := List.getElem?_eq_some_iff.1 hb
  have hp := List.pairwise_iff_getElem.1 h
  rcases Nat.lt_trichotomy a b with h1 | h1 | h1
  · exact absurd (ha2.trans hb2.symm) (hp a b ha1 hb1 h1)
  · exact h1
  · exact absurd (hb2.trans ha2.symm) (hp b a hb1 ha1 h1)

theorem cellN_at (cs : List Cp) (C junk : Nat → Value) (i r : Nat) (hi : i < cs.length) (hn : negB cs i = true) (hr : r < 3) : cellN cs (stA cs i) C junk ((ngI cs i (stA cs i)).length * 3 + r) = if r = 0 then .string (cpA cs i).f2 else if r = 1 then .string (cpA cs i).f3 else C i := by
  unfold cellN
  rw [show ((ngI cs i (stA cs i)).length * 3 + r) / 3 = (ngI cs i (stA cs i)).length from by omega, ngI_at cs i hi hn, show ((ngI cs i (stA cs i)).length * 3 + r) % 3 = r from by omega]
theorem cellN_set (cs : List Cp) (C junk : Nat → Value) (i : Nat) (hi : i < cs.length) (hn : negB cs i = true) (v : Value) (o : Nat) : (if o = (ngI cs i (stA cs i)).length * 3 + 2 then v else cellN cs (stA cs i) C junk o) = cellN cs (stA cs i) (upd C i v) junk o := by
  by_cases h : o = (ngI cs i (stA cs i)).length * 3 + 2
  · subst h
    rw [if_pos rfl, cellN_at cs _ _ i 2 hi hn (by omega)]
    simp [upd]
  · rw [if_neg h]
    unfold cellN
    cases hj : (ngI cs cs.length (stA cs i))[o / 3]? with
    | none => rfl
    | some i' =>
      by_cases h0 : o % 3 = 0
      · simp [h0]
      by_cases h1 : o % 3 = 1
      · simp [h1]
      simp only [h0, h1, if_false]
      have h2 : o % 3 = 2 := by have := Nat.mod_lt o (show 3 > 0 by omega); omega
      have hne : i' ≠ i := by
        rintro rfl
        have := nodup_get (ngI_nodup cs _ _) hj (ngI_at cs i' hi hn)
        omega
      unfold upd
      rw [if_neg hne]

section
variable {w : World} {base G : Nat} {cs : List Cp} {L : Nat → Nat → List Ex} {S N : Nat} {T U : Nat → ByteArray} {Pl : Nat → Bool} {nb cap : Nat → Nat} {junk V : Nat → Nat → Value} {f : Nat → Nat}
theorem ngI_lt_cap (h : LayIn w base G cs L S N T U Pl nb cap junk V f) (i : Nat) (hi : i < cs.length) (hn : negB cs i = true) : (ngI cs i (stA cs i)).length < cap (stA cs i) := by
  have h1 := (h.hB _ (ngI_ne hi hn)).2.1
  have := (List.getElem?_eq_some_iff.1 (ngI_at cs i hi hn)).1
  omega
/-- The place's cell. -/
theorem LayIn.at_ (h : LayIn w base G cs L S N T U Pl nb cap junk V f) (k i : Nat) (hv : VP cs k i) :
    w.cell? ⟨(adr cs G S nb k i).1, (adr cs G S nb k i).2, none⟩ = some (V k i) ∧ w.frozen? ⟨(adr cs G S nb k i).1, (adr cs G S nb k i).2, none⟩ = false ∧ base ≤ (adr cs G S nb k i).1 ∧ ∃ t cells, t ≠ 31 ∧ w.heap[(adr cs G S nb k i).1]? = some (.cells cells t (0, 0)) := by
  rcases hv with ⟨rfl | rfl | rfl, hi⟩ | ⟨rfl, hi, hn⟩ | ⟨rfl, rfl⟩
  · exact ⟨(h.hS.cell (i := i * 7 + 4) (by omega)).trans (by rw [cellS_at4]), h.hS.frozen _, h.bS, 71, by obtain ⟨c, hc, _⟩ := h.hS; exact ⟨c, by decide, hc⟩⟩
  · exact ⟨(h.hS.cell (i := i * 7 + 5) (by omega)).trans (by rw [cellS_at5]), h.hS.frozen _, h.bS, 71, by obtain ⟨c, hc, _⟩ := h.hS; exact ⟨c, by decide, hc⟩⟩
  · exact ⟨(h.hS.cell (i := i * 7 + 6) (by omega)).trans (by rw [cellS_at6]), h.hS.frozen _, h.bS, 71, by obtain ⟨c, hc, _⟩ := h.hS; exact ⟨c, by decide, hc⟩⟩
  · obtain ⟨h1, h2, h3⟩ := h.hB _ (ngI_ne hi hn)
    have := ngI_lt_cap h i hi hn
    exact ⟨(h3.cell (i := (ngI cs i (stA cs i)).length * 3 + 2) (by omega)).trans (by rw [cellN_at cs _ _ i 2 hi hn (by omega)]; rfl), h3.frozen _, h1, 73, by obtain ⟨c, hc, _⟩ := h3; exact ⟨c, by decide, hc⟩⟩
  · exact ⟨(blk_cell h.hG 2).trans rfl, blk_frozen h.hG 2, h.bG, 102, _, by decide, h.hG⟩

theorem LayIn.put (h : LayIn w base G cs L S N T U Pl nb cap junk V f) {w1 : World} {k i : Nat} {v1 : Value} {xs : List Ex} (hv : VP cs k i) (hg : w.grownBy w1 (V k i).ownBlock)
    (hR : kEx.R 31 w1 base (fun b => (if w.heap.size ≤ b then 8 * i + k else f b) = 8 * i + k) v1 xs) :
    LayIn (w1.setCell ⟨(adr cs G S nb k i).1, (adr cs G S nb k i).2, none⟩ v1) base G cs (upd2 L k i xs) S N T U Pl nb cap junk (upd2 V k i v1) (fun b => if w.heap.size ≤ b then 8 * i + k else f b) := by
  have hk8 : k < 8 := by rcases hv with ⟨h | h | h, _⟩ | ⟨h, _⟩ | ⟨h, _⟩ <;> omega
  have hR0 := h.hL k i hk8
  have G1 := blk_grown h.hG hg (Kd.R_ne hR0 h.hG (by decide))
  have N1 := rowIs_far h.hN hg (R_ne_row hR0 h.hN (by decide))
  have S1 := rowIs_far h.hS hg (R_ne_row hR0 h.hS (by decide))
  have B1 : ∀ s, ngI cs cs.length s ≠ [] → base ≤ nb s ∧ (ngI cs cs.length s).length ≤ cap s ∧ w1.rowIs (nb s) 73 (cap s * 3) (cellN cs s (V 4) (junk s)) :=
    fun s hs => ⟨(h.hB s hs).1, (h.hB s hs).2.1, rowIs_far (h.hB s hs).2.2 hg (R_ne_row hR0 (h.hB s hs).2.2 (by decide))⟩
  -- the lists
  have HL : ∀ (b t : Nat) (cells : Array Value) (j : Nat), t ≠ 31 → w1.heap[b]? = some (.cells cells t (0, 0)) → ∀ k' i', k' < 8 → kEx.R 31 (w1.setCell ⟨b, j, none⟩ v1) base (fun b => (if w.heap.size ≤ b then 8 * i + k else f b) = 8 * i' + k') (upd2 V k i v1 k' i') (upd2 L k i xs k' i') := by
    intro b t cells j ht hb k' i' hk'
    have hq : ∀ q, q ∈ (31 : Nat) :: kEx.E → q ≠ t := by
      intro q hq
      have : q = 31 := by
        have e : kEx.E = [31] := rfl
        rw [e] at hq
        simpa using hq
      omega
    unfold upd2
    by_cases he : k' = k ∧ i' = i
    · obtain ⟨rfl, rfl⟩ := he
      rw [if_pos ⟨rfl, rfl⟩, if_pos ⟨rfl, rfl⟩]
      exact Kd.R_set hR hb hq _ _
    · rw [if_neg he, if_neg he]
      have h1 := Kd.R_mono (Kd.R_bound (h.hL k' i' hk')) (ok' := fun b => f b = 8 * i' + k' ∧ b < w.heap.size) (fun b hb => ⟨hb.1, hb.2.2.1⟩)
      have h2 := Kd.R_grown h1 hg (fun b hb he2 => by
        have := hR0.1 b he2.symm
        simp only at this hb
        have e := hb.1.symm.trans this
        exact he (by omega))
      exact Kd.R_mono (Kd.R_set h2 hb hq _ _) (fun b hb => by show (if w.heap.size ≤ b then 8 * i + k else f b) = 8 * i' + k'; rw [if_neg (by omega)]; exact hb.1)
  obtain ⟨cN, hcN, _⟩ := id N1
  obtain ⟨cS, hcS, _⟩ := id S1
  have nGS : G ≠ S := fun e => rowIs_blk_ne S1 G1 (by decide) e.symm
  have nNS : N ≠ S := rowIs_ne N1 S1 (by decide)
  have nGN : G ≠ N := fun e => rowIs_blk_ne N1 G1 (by decide) e.symm
  have nBS : ∀ s, ngI cs cs.length s ≠ [] → nb s ≠ S := fun s hs => rowIs_ne (B1 s hs).2.2 S1 (by decide)
  have nBN : ∀ s, ngI cs cs.length s ≠ [] → nb s ≠ N := fun s hs => rowIs_ne (B1 s hs).2.2 N1 (by decide)
  have nBG : ∀ s, ngI cs cs.length s ≠ [] → nb s ≠ G := fun s hs => rowIs_blk_ne (B1 s hs).2.2 G1 (by decide)
  rcases hv with ⟨rfl | rfl | rfl, hi⟩ | ⟨rfl, hi, hn⟩ | ⟨rfl, rfl⟩
  · refine ⟨h.bS, h.bN, h.bG, ?_, N1.setOther (a := ⟨S, i * 7 + 4, none⟩) nNS _, ?_, ?_, h.inj, HL S 71 cS (i * 7 + 4) (by decide) hcS, h.hT⟩
    · rw [show upd2 V 1 i v1 5 0 = V 5 0 from by simp [upd2]]; exact blk_far G1 (p := ⟨S, i * 7 + 4, none⟩) nGS _
    · rw [upd2_upd, upd2_kind V 1 i v1 2 (by decide), upd2_kind V 1 i v1 3 (by decide)]
      exact (S1.set (i * 7 + 4) v1).congr (fun o _ => cellS_set4 _ _ _ _ _ _ _ _ _ _)
    · rw [upd2_kind V 1 i v1 4 (by decide)]
      exact fun s hs => ⟨(B1 s hs).1, (B1 s hs).2.1, (B1 s hs).2.2.setOther (a := ⟨S, i * 7 + 4, none⟩) (nBS s hs) _⟩
  · refine ⟨h.bS, h.bN, h.bG, ?_, N1.setOther (a := ⟨S, i * 7 + 5, none⟩) nNS _, ?_, ?_, h.inj, HL S 71 cS (i * 7 + 5) (by decide) hcS, h.hT⟩
    · rw [show upd2 V 2 i v1 5 0 = V 5 0 from by simp [upd2]]; exact blk_far G1 (p := ⟨S, i * 7 + 5, none⟩) nGS _
    · rw [upd2_upd, upd2_kind V 2 i v1 1 (by decide), upd2_kind V 2 i v1 3 (by decide)]
      exact (S1.set (i * 7 + 5) v1).congr (fun o _ => cellS_set5 _ _ _ _ _ _ _ _ _ _)
    · rw [upd2_kind V 2 i v1 4 (by decide)]
      exact fun s hs => ⟨(B1 s hs).1, (B1 s hs).2.1, (B1 s hs).2.2.setOther (a := ⟨S, i * 7 + 5, none⟩) (nBS s hs) _⟩
  · refine ⟨h.bS, h.bN, h.bG, ?_, N1.setOther (a := ⟨S, i * 7 + 6, none⟩) nNS _, ?_, ?_, h.inj, HL S 71 cS (i * 7 + 6) (by decide) hcS, h.hT⟩
    · rw [show upd2 V 3 i v1 5 0 = V 5 0 from by simp [upd2]]; exact blk_far G1 (p := ⟨S, i * 7 + 6, none⟩) nGS _
    · rw [upd2_upd, upd2_kind V 3 i v1 1 (by decide), upd2_kind V 3 i v1 2 (by decide)]
      exact (S1.set (i * 7 + 6) v1).congr (fun o _ => cellS_set6 _ _ _ _ _ _ _ _ _ _)
    · rw [upd2_kind V 3 i v1 4 (by decide)]
      exact fun s hs => ⟨(B1 s hs).1, (B1 s hs).2.1, (B1 s hs).2.2.setOther (a := ⟨S, i * 7 + 6, none⟩) (nBS s hs) _⟩
  · have hne := ngI_ne hi hn
    obtain ⟨b1, b2, b3⟩ := B1 _ hne
    obtain ⟨cB, hcB, _⟩ := id b3
    refine ⟨h.bS, h.bN, h.bG, ?_, N1.setOther (a := ⟨nb (stA cs i), (ngI cs i (stA cs i)).length * 3 + 2, none⟩) (fun e => nBN _ hne e.symm) _, ?_, ?_, h.inj, HL (nb (stA cs i)) 73 cB ((ngI cs i (stA cs i)).length * 3 + 2) (by decide) hcB, h.hT⟩
    · rw [show upd2 V 4 i v1 5 0 = V 5 0 from by simp [upd2]]; exact blk_far G1 (p := ⟨nb (stA cs i), (ngI cs i (stA cs i)).length * 3 + 2, none⟩) (fun e => nBG _ hne e.symm) _
    · rw [upd2_kind V 4 i v1 1 (by decide), upd2_kind V 4 i v1 2 (by decide), upd2_kind V 4 i v1 3 (by decide)]
      exact S1.setOther (a := ⟨nb (stA cs i), (ngI cs i (stA cs i)).length * 3 + 2, none⟩) (fun e => nBS _ hne e.symm) _
    · intro s hs
      obtain ⟨c1, c2, c3⟩ := B1 s hs
      refine ⟨c1, c2, ?_⟩
      rw [upd2_upd]
      by_cases hss : s = stA cs i
      · subst hss
        exact (c3.set ((ngI cs i (stA cs i)).length * 3 + 2) v1).congr (fun o _ => cellN_set cs _ _ i hi hn _ _)
      · refine (c3.setOther (a := ⟨nb (stA cs i), (ngI cs i (stA cs i)).length * 3 + 2, none⟩) (h.inj s _ hs hne hss) _).congr (fun o _ => ?_)
        unfold cellN
        cases hj : (ngI cs cs.length s)[o / 3]? with
        | none => rfl
        | some i' =>
          have hm := ngI_lt (List.mem_of_getElem? hj)
          have : i' ≠ i := by rintro rfl; exact hss hm.2.2.symm
          simp [upd, this]
  · refine ⟨h.bS, h.bN, h.bG, ?_, N1.setOther (a := ⟨G, 2, none⟩) (fun e => nGN e.symm) _, ?_, ?_, h.inj, HL G 102 _ 2 (by decide) G1, h.hT⟩
    · rw [upd2_same]
      exact blk_set G1 2 v1
    · rw [upd2_kind V 5 0 v1 1 (by decide), upd2_kind V 5 0 v1 2 (by decide), upd2_kind V 5 0 v1 3 (by decide)]
      exact S1.setOther (a := ⟨G, 2, none⟩) (fun e => nGS e.symm) _
    · rw [upd2_kind V 5 0 v1 4 (by decide)]
      exact fun s hs => ⟨(B1 s hs).1, (B1 s hs).2.1, (B1 s hs).2.2.setOther (a := ⟨G, 2, none⟩) (nBG s hs) _⟩
end
end Go.Proofs.Ytgnifglolbfamaa

/- Plain facts about the places: what the two passes over the references leave, and where an anchor lies. -/
set_option linter.unusedVariables false
set_option linter.unusedSimpArgs false
namespace Go.Proofs.Ytgnifglolbfamaa
open Go.RowKit Go.Proofs.YtgnifglolbfamaaW.PrintWords

theorem cix_nonneg (cs : List Cp) (r : Rf) : 0 ≤ cix cs r := by
  unfold cix
  cases h : vix cs r.f0.data.toList with
  | none => simp
  | some i => simpa using (vix_bound _ _ _ h).1
theorem cix_lt (cs : List Cp) (h0 : 0 < cs.length) (r : Rf) : cix cs r < cs.length := by
  unfold cix
  cases h : vix cs r.f0.data.toList with
  | none => simp; omega
  | some i => simpa using (vix_bound _ _ _ h).2

def itR (r : Rf) : Bool := iterAt r.f1
def ngR (cs : List Cp) (r : Rf) : Bool := negAt cs (cix cs r).toNat
structure MixF (cs : List Cp) (rs : List Rf) (p0 p : Int × Int) : Prop where
  it : ∀ r ∈ rs, itR r = true → cix cs r = p.1
  ng : ∀ r ∈ rs, ngR cs r = true → cix cs r = p.2
  some1 : p.1 = p0.1 ∨ ∃ r ∈ rs, itR r = true ∧ cix cs r = p.1
  some2 : p.2 = p0.2 ∨ ∃ r ∈ rs, ngR cs r = true ∧ cix cs r = p.2
  stay1 : 0 ≤ p0.1 → p.1 = p0.1
  stay2 : 0 ≤ p0.2 → p.2 = p0.2
theorem mixF (cs : List Cp) : ∀ (rs : List Rf) (p0 p : Int × Int), rs.foldlM (mstep cs) p0 = some p → MixF cs rs p0 p
  | [], p0, p, h => by
    simp at h
    subst h
    exact ⟨by simp, by simp, Or.inl rfl, Or.inl rfl, fun _ => rfl, fun _ => rfl⟩
  | r :: rs, p0, p, h => by
    rw [List.foldlM_cons] at h
    obtain ⟨p1, h1, h2⟩ := Option.bind_eq_some_iff.1 h
    obtain ⟨i1, i2, i3, i4, i5, i6⟩ := mixF cs rs p1 p h2
    have hc := cix_nonneg cs r
    unfold mstep mstepB at h1
    have e1 : iterAt r.f1 = itR r := rfl
    have e2 : negAt cs (cix cs r).toNat = ngR cs r := rfl
    rw [e1, e2] at h1
    split at h1
    · exact absurd h1 (by simp)
    · rename_i g1
      split at h1
      · exact absurd h1 (by simp)
      · rename_i g2
        injection h1 with h1
        subst h1
        simp only at i3 i4 i5 i6
        refine ⟨?_, ?_, ?_, ?_, ?_, ?_⟩
        · intro x hx hi
          rcases List.mem_cons.1 hx with rfl | hx
          · rw [hi] at i5; simp only [if_true] at i5; exact (i5 hc).symm
          · exact i1 x hx hi
        · intro x hx hi
          rcases List.mem_cons.1 hx with rfl | hx
          · rw [hi] at i6; simp only [if_true] at i6; exact (i6 hc).symm
          · exact i2 x hx hi
        · rcases i3 with i3 | ⟨x, hx, h⟩
          · cases hb : itR r with
            | true => right; exact ⟨r, List.mem_cons_self, hb, by rw [hb] at i3; simpa using i3.symm⟩
            | false => left; rw [hb] at i3; simpa using i3
          · right; exact ⟨x, List.mem_cons_of_mem _ hx, h⟩
        · rcases i4 with i4 | ⟨x, hx, h⟩
          · cases hb : ngR cs r with
            | true => right; exact ⟨r, List.mem_cons_self, hb, by rw [hb] at i4; simpa using i4.symm⟩
            | false => left; rw [hb] at i4; simpa using i4
          · right; exact ⟨x, List.mem_cons_of_mem _ hx, h⟩
        · intro h0
          cases hb : itR r with
          | true =>
            rw [hb] at g1 i5
            simp only [if_true] at i5
            simp at g1
            rw [i5 hc]
            exact (g1 h0).symm
          | false => rw [hb] at i5; simpa using i5 h0
        · intro h0
          cases hb : ngR cs r with
          | true =>
            rw [hb] at g2 i6
            simp only [if_true] at i6
            simp at g2
            rw [i6 hc]
            exact (g2 h0).symm
          | false => rw [hb] at i6; simpa using i6 h0
/-- What a mix without a fault is. -/
theorem mixOf_ok (cs : List Cp) (rs : List Rf) (h : (mixOf cs rs).2.2 = 0) : MixF cs rs (-1, -1) ((mixOf cs rs).1, (mixOf cs rs).2.1) ∧ ∀ r ∈ rs, mbad cs ((mixOf cs rs).1, (mixOf cs rs).2.1) r = false := by
  unfold mixOf at h ⊢
  cases hm : mix1 cs rs with
  | none => rw [hm] at h; exact absurd (show (83 : Int) = 0 from h) (by decide)
  | some p =>
    rw [hm] at h
    simp only at h ⊢
    split at h
    · exact absurd h (by decide)
    · rename_i hb
      rw [if_neg hb]
      refine ⟨mixF cs rs _ _ hm, fun r hr => ?_⟩
      rcases Bool.eq_false_or_eq_true (mbad cs p r) with h1 | h1
      · exact absurd (List.any_eq_true.2 ⟨r, hr, h1⟩) hb
      · exact h1

theorem lastMom_at (cs : List Cp) (h0 : 0 < cs.length) (rs : List Rf) : ∃ j : Nat, j < cs.length ∧ (lastMom cs rs).1 = (stA cs j : Int) := by
  have : ∀ (rs : List Rf) (m : Int × Bool), (∃ j : Nat, j < cs.length ∧ m.1 = (stA cs j : Int)) → ∃ j : Nat, j < cs.length ∧ (rs.foldl (fun m r => laterM m (refMom cs r)) m).1 = (stA cs j : Int) := by
    intro rs
    induction rs with
    | nil => intro m h; exact h
    | cons r rs ih =>
      intro m h
      refine ih _ ?_
      show ∃ j : Nat, j < cs.length ∧ (laterM m (refMom cs r)).1 = (stA cs j : Int)
      unfold laterM
      split
      · have h1 := cix_nonneg cs r
        have h2 := cix_lt cs h0 r
        exact ⟨(cix cs r).toNat, by omega, rfl⟩
      · exact h
  exact this rs (0, false) ⟨0, h0, by simp [stA, stg]⟩

theorem patErr_parts {cs : List Cp} (h : patErr cs = 0) : 0 < cs.length ∧ cs.length ≤ 8 ∧ dup cs = false ∧ negB cs 0 = false ∧ negB cs (cs.length - 1) = false := by
  unfold patErr at h
  split at h
  · exact absurd h (by decide)
  · split at h
    · exact absurd h (by decide)
    · rename_i h1 h2
      split at h
      · exact absurd h (by decide)
      · rename_i h3
        have h3 : (negB cs 0 || negB cs (cs.length - 1)) = false := by
          rcases Bool.eq_false_or_eq_true (negB cs 0 || negB cs (cs.length - 1)) with e | e
          · exact absurd e h3
          · exact e
        rw [Bool.or_eq_false_iff] at h3
        exact ⟨by omega, by omega, by simpa using h2, h3.1, h3.2⟩

def plI (k n : Nat) : Nat := if k = 5 then 0 else n
theorem anchor_valid {cs : List Cp} {rs : List Rf} {k n : Int} (h : anchorOf cs rs = (k, n, 0)) (h0 : patErr cs = 0) : ∃ k' n' : Nat, k = k' ∧ n = n' ∧ VP cs k' (plI k' n') ∧ (k' = 5 ∨ n' = plI k' n') := by
  obtain ⟨p0, p1, p2, p3, p4⟩ := patErr_parts h0
  unfold anchorOf at h
  split at h
  · rename_i r hr
    have h1 := List.find?_some hr
    injection h with _ h
    injection h with _ h
    rw [h] at h1
    exact absurd h1 (by decide)
  · split at h
    · rename_i h1
      injection h with _ h
      injection h with _ h
      exact absurd h h1
    · rename_i hne
      have hz : (mixOf cs rs).2.2 = 0 := Classical.not_not.1 hne
      obtain ⟨hm, _⟩ := mixOf_ok cs rs hz
      split at h
      · rename_i h2
        injection h with ha h
        injection h with hb h
        have hlt : (mixOf cs rs).1 < cs.length := by
          rcases hm.some1 with e | ⟨r, _, _, e⟩
          · simp only at e; omega
          · have := cix_lt cs p0 r; simp only at e; omega
        refine ⟨2, stA cs (mixOf cs rs).1.toNat, ha.symm, hb.symm, Or.inl ⟨Or.inr (Or.inl rfl), stA_lt cs p4 _ (by omega)⟩, Or.inr rfl⟩
      · split at h
        · rename_i h2 h3
          injection h with ha h
          injection h with hb h
          rcases hm.some2 with e | ⟨r, _, hr, e⟩
          · simp only at e; omega
          · have hlt := cix_lt cs p0 r
            simp only at e
            refine ⟨4, (mixOf cs rs).2.1.toNat, ha.symm, by omega, Or.inr (Or.inl ⟨rfl, by show (mixOf cs rs).2.1.toNat < _; omega, ?_⟩), Or.inr rfl⟩
            show negB cs (mixOf cs rs).2.1.toNat = true
            rw [← e]
            exact hr
        · obtain ⟨j, hj, he⟩ := lastMom_at cs p0 rs
          have hs := stA_lt cs p4 j hj
          split at h
          · injection h with ha h
            injection h with hb h
            exact ⟨1, stA cs j, ha.symm, hb.symm.trans he, Or.inl ⟨Or.inl rfl, hs⟩, Or.inr rfl⟩
          · split at h
            · injection h with ha h
              injection h with hb h
              exact ⟨5, stA cs j, ha.symm, hb.symm.trans he, Or.inr (Or.inr ⟨rfl, rfl⟩), Or.inl rfl⟩
            · injection h with ha h
              injection h with hb h
              exact ⟨3, stA cs j, ha.symm, hb.symm.trans he, Or.inl ⟨Or.inr (Or.inr rfl), hs⟩, Or.inr rfl⟩
end Go.Proofs.Ytgnifglolbfamaa

/- The plain law of the places: what an anchor without a fault says of the references. -/
set_option linter.unusedVariables false
set_option linter.unusedSimpArgs false
namespace Go.Proofs.Ytgnifglolbfamaa
open Go.RowKit Go.Proofs.YtgnifglolbfamaaW.PrintWords

def valM (m : Int × Bool) : Int := 2 * m.1 + if m.2 then 1 else 0
theorem laterM_val (m o : Int × Bool) : valM m ≤ valM (laterM m o) ∧ valM o ≤ valM (laterM m o) ∧ (laterM m o = m ∨ laterM m o = o) := by
  obtain ⟨s, c⟩ := m
  obtain ⟨s', c'⟩ := o
  unfold laterM behindB valM
  rcases Int.lt_trichotomy s' s with h | h | h
  · have h1 : ¬ s' > s := by omega
    have h2 : (s' == s) = false := by rw [beq_eq_false_iff_ne]; omega
    simp [h1, h2]
    cases c <;> cases c' <;> simp <;> omega
  · subst h
    cases c <;> cases c' <;> simp <;> omega
  · have h1 : s' > s := by omega
    simp [h1]
    cases c <;> cases c' <;> simp <;> omega
theorem lastMom_val (cs : List Cp) (rs : List Rf) : (∀ r ∈ rs, valM (refMom cs r) ≤ valM (lastMom cs rs)) ∧ (valM (lastMom cs rs) = 0 ∨ ∃ r ∈ rs, valM (refMom cs r) = valM (lastMom cs rs)) := by
  have : ∀ (rs : List Rf) (m : Int × Bool), valM m ≤ valM (rs.foldl (fun m r => laterM m (refMom cs r)) m) ∧ (∀ r ∈ rs, valM (refMom cs r) ≤ valM (rs.foldl (fun m r => laterM m (refMom cs r)) m)) ∧ (rs.foldl (fun m r => laterM m (refMom cs r)) m = m ∨ ∃ r ∈ rs, valM (refMom cs r) = valM (rs.foldl (fun m r => laterM m (refMom cs r)) m)) := by
    intro rs
    induction rs with
    | nil => intro m; exact ⟨Int.le_refl _, by simp, Or.inl rfl⟩
    | cons r rs ih =>
      intro m
      obtain ⟨h1, h2, h3⟩ := ih (laterM m (refMom cs r))
      obtain ⟨g1, g2, g3⟩ := laterM_val m (refMom cs r)
      rw [List.foldl_cons]
      refine ⟨by omega, ?_, ?_⟩
      · intro x hx
        rcases List.mem_cons.1 hx with rfl | hx
        · omega
        · exact h2 x hx
      · rcases h3 with h3 | ⟨x, hx, h3⟩
        · rcases g3 with g3 | g3
          · left; rw [h3, g3]
          · right; exact ⟨r, List.mem_cons_self, by rw [h3, g3]⟩
        · right; exact ⟨x, List.mem_cons_of_mem _ hx, h3⟩
  obtain ⟨h1, h2, h3⟩ := this rs (0, false)
  refine ⟨h2, ?_⟩
  rcases h3 with h3 | h3
  · left; unfold lastMom; rw [h3]; rfl
  · right; exact h3

theorem used_parts {cs : List Cp} {r : Rf} (h : usedErr cs r = 0) : (vix cs r.f0.data.toList).isSome = true ∧ manyAt cs (cix cs r).toNat = !(r.f1 == 1) := by
  unfold usedErr at h
  cases hv : vix cs r.f0.data.toList with
  | none => rw [hv] at h; exact absurd (show (80 : Int) = 0 from h) (by decide)
  | some i =>
    rw [hv] at h
    simp only at h
    split at h
    · exact absurd h (by decide)
    · rename_i hn
      refine ⟨rfl, ?_⟩
      have hc : cix cs r = i := by unfold cix; rw [hv]; rfl
      rw [hc]
      cases hm : manyAt cs i.toNat <;> cases hb : (r.f1 == 1) <;> first | rfl | (exact absurd (Or.inr (Or.inr (by rw [hm, hb]))) hn)
theorem boundB_val {cs : List Cp} {r : Rf} (h : (vix cs r.f0.data.toList).isSome = true) (mom : Int) : boundB cs r mom = decide (valM (refMom cs r) ≤ mom) := by
  obtain ⟨i, hi⟩ := Option.isSome_iff_exists.1 h
  have hc : cix cs r = i := by unfold cix; rw [hi]; rfl
  unfold boundB valM refMom
  rw [hc, hi]
  rfl
theorem iter_not_neg {cs : List Cp} {r : Rf} (h : usedErr cs r = 0) (hi : itR r = true) : ngR cs r = false := by
  have h1 := (used_parts h).2
  have h2 : (r.f1 == 1) = false := by
    unfold itR iterAt at hi
    cases hb : (r.f1 == 1) with
    | false => rfl
    | true =>
      have : r.f1 = 1 := by simpa using hb
      rw [this] at hi
      exact absurd hi (by decide)
  rw [h2] at h1
  unfold manyAt manyB at h1
  unfold ngR negAt
  cases hf : (cs.getD (cix cs r).toNat zCp).f0 with
  | false => rfl
  | true => rw [hf] at h1; simp at h1

theorem anchor_used {cs : List Cp} {rs : List Rf} {k n : Int} (h : anchorOf cs rs = (k, n, 0)) : ∀ r ∈ rs, usedErr cs r = 0 := by
  unfold anchorOf at h
  split at h
  · rename_i r hr
    have h1 := List.find?_some hr
    injection h with _ h
    injection h with _ h
    rw [h] at h1
    exact absurd h1 (by decide)
  · rename_i hn
    intro r hr
    have := List.find?_eq_none.1 hn r hr
    simpa using this

structure Law1 (cs : List Cp) (rs : List Rf) (k n : Nat) : Prop where
  all : ∀ r ∈ rs, boundB cs r (2 * n + if k = 1 then 0 else 1) = true ∧ itR r = false ∧ ngR cs r = false
  early : (0 : Int) < 2 * n + (if k = 1 then 0 else 1) → ∃ r ∈ rs, boundB cs r ((2 * n + if k = 1 then 0 else 1) - 1) = false
  lt : n < stg cs
  fin : k = 5 ↔ (2 * n + (if k = 1 then 0 else 1) : Int) = 2 * stg cs - 1
structure Law2 (cs : List Cp) (rs : List Rf) (n : Nat) : Prop where
  all : ∀ r ∈ rs, ngR cs r = false ∧ (itR r = true → stA cs (cix cs r).toNat = n) ∧ (itR r = false → stA cs (cix cs r).toNat ≤ n ∧ (stA cs (cix cs r).toNat = n → r.f1 = 4))
  some_ : ∃ r ∈ rs, itR r = true
  lt : n < stg cs
structure Law4 (cs : List Cp) (rs : List Rf) (n : Nat) : Prop where
  all : ∀ r ∈ rs, itR r = false ∧ (cix cs r ≠ n → cix cs r ≤ n ∧ ngR cs r = false)
  some_ : ∃ r ∈ rs, cix cs r = n
  pos : 0 < n
  lt : n < cs.length - 1
  neg : negB cs n = true

theorem anchor_law {cs : List Cp} {rs : List Rf} {k n : Int} (h : anchorOf cs rs = (k, n, 0)) (h0 : patErr cs = 0) :
    ∃ k' n' : Nat, k = k' ∧ n = n' ∧ (∀ r ∈ rs, (vix cs r.f0.data.toList).isSome = true) ∧ (((k' = 1 ∨ k' = 3 ∨ k' = 5) ∧ Law1 cs rs k' n') ∨ (k' = 2 ∧ Law2 cs rs n') ∨ (k' = 4 ∧ Law4 cs rs n')) := by
  obtain ⟨p0, p1, p2, p3, p4⟩ := patErr_parts h0
  have hu := anchor_used h
  have hsome : ∀ r ∈ rs, (vix cs r.f0.data.toList).isSome = true := fun r hr => (used_parts (hu r hr)).1
  unfold anchorOf at h
  split at h
  · rename_i r hr
    have h1 := List.find?_some hr
    injection h with _ h
    injection h with _ h
    rw [h] at h1
    exact absurd h1 (by decide)
  · split at h
    · rename_i h1
      injection h with _ h
      injection h with _ h
      exact absurd h h1
    · rename_i hne
      have hz : (mixOf cs rs).2.2 = 0 := Classical.not_not.1 hne
      obtain ⟨hm, hbad⟩ := mixOf_ok cs rs hz
      generalize hq1 : (mixOf cs rs).1 = q1 at *
      generalize hq2 : (mixOf cs rs).2.1 = q2 at *
      split at h
      · rename_i h2
        injection h with ha h
        injection h with hb h
        have hex : ∃ r ∈ rs, itR r = true ∧ cix cs r = q1 := by
          rcases hm.some1 with e | e
          · simp only at e; omega
          · exact e
        have hlt : q1 < cs.length := by
          obtain ⟨r, _, _, e⟩ := hex
          have := cix_lt cs p0 r
          omega
        refine ⟨2, stA cs q1.toNat, ha.symm, hb.symm, hsome, Or.inr (Or.inl ⟨rfl, ?_, ?_, stA_lt cs p4 _ (by omega)⟩)⟩
        · intro r hr
          have hb1 := hbad r hr
          have hc := cix_nonneg cs r
          have hcl := cix_lt cs p0 r
          cases hi : itR r with
          | true =>
            refine ⟨iter_not_neg (hu r hr) hi, fun _ => ?_, fun h => absurd h (by decide)⟩
            rw [hm.it r hr hi]
          | false =>
            unfold mbad badB at hb1
            have e1 : iterAt r.f1 = itR r := rfl
            have e2 : negAt cs (cix cs r).toNat = ngR cs r := rfl
            rw [e1, e2, hi] at hb1
            have h3 : decide (q1 ≥ 0) = true := by simpa using h2
            have h4 : decide (q1 < 0) = false := by simp; omega
            simp only [h3, h4, Bool.not_false, Bool.true_and, Bool.false_and, Bool.or_false, Bool.or_eq_false_iff, decide_eq_false_iff_not] at hb1
            obtain ⟨⟨hn, hgt⟩, heq⟩ := hb1
            refine ⟨hn, fun h => absurd h (by decide), fun _ => ?_⟩
            rcases Int.lt_or_eq_of_le (show cix cs r ≤ q1 by omega) with hl | hl
            · have hpos := stA_pos cs (cix cs r).toNat q1.toNat (by omega) (by omega) hn
              exact ⟨by omega, fun e => by omega⟩
            · refine ⟨by rw [hl]; exact Nat.le_refl _, fun _ => ?_⟩
              rw [hl] at heq
              simpa using heq
        · obtain ⟨r, hr, h1, _⟩ := hex
          exact ⟨r, hr, h1⟩
      · rename_i h2
        have hnoit : ∀ r ∈ rs, itR r = false := by
          intro r hr
          cases hi : itR r with
          | false => rfl
          | true => have := hm.it r hr hi; have := cix_nonneg cs r; simp only at *; omega
        split at h
        · rename_i h3
          injection h with ha h
          injection h with hb h
          have hex : ∃ r ∈ rs, ngR cs r = true ∧ cix cs r = q2 := by
            rcases hm.some2 with e | e
            · simp only at e; omega
            · exact e
          obtain ⟨r0, hr0, hng0, he0⟩ := hex
          have hlt : q2 < cs.length := by have := cix_lt cs p0 r0; omega
          have hnb : negB cs q2.toNat = true := by rw [← he0]; exact hng0
          have hne0 : q2.toNat ≠ 0 := by intro e; rw [e, p3] at hnb; exact absurd hnb (by decide)
          have hnel : q2.toNat ≠ cs.length - 1 := by intro e; rw [e, p4] at hnb; exact absurd hnb (by decide)
          refine ⟨4, q2.toNat, ha.symm, by omega, hsome, Or.inr (Or.inr ⟨rfl, ?_, ⟨r0, hr0, by omega⟩, by omega, by omega, hnb⟩)⟩
          intro r hr
          refine ⟨hnoit r hr, fun hne2 => ?_⟩
          have hb1 := hbad r hr
          unfold mbad badB at hb1
          have e1 : iterAt r.f1 = itR r := rfl
          rw [e1, hnoit r hr] at hb1
          have h4 : decide (q1 ≥ 0) = false := by simp; omega
          have h5 : decide (q1 < 0) = true := by simp; omega
          have h6 : decide (q2 ≥ 0) = true := by simpa using h3
          simp only [h4, h5, h6, Bool.not_false, Bool.true_and, Bool.false_and, Bool.false_or, decide_eq_false_iff_not] at hb1
          refine ⟨by omega, ?_⟩
          cases hg : ngR cs r with
          | false => rfl
          | true => have := hm.ng r hr hg; simp only at this; omega
        · rename_i h3
          have hnong : ∀ r ∈ rs, ngR cs r = false := by
            intro r hr
            cases hg : ngR cs r with
            | false => rfl
            | true => have := hm.ng r hr hg; have := cix_nonneg cs r; simp only at *; omega
          obtain ⟨j, hj, he⟩ := lastMom_at cs p0 rs
          have hs := stA_lt cs p4 j hj
          obtain ⟨v1, v2⟩ := lastMom_val cs rs
          generalize hlm : lastMom cs rs = lm at *
          obtain ⟨s, c⟩ := lm
          simp only at he h
          have fin : ∀ k' : Nat, (k' = 1 ∨ k' = 3 ∨ k' = 5) → (if k' = 1 then c = false else c = true) → (k' = 5 → s = (stg cs : Int) - 1) → (k' = 3 → s ≠ (stg cs : Int) - 1) → Law1 cs rs k' (stA cs j) := by
            intro k' hk hc h5 h3'
            have hval : valM (s, c) = 2 * (stA cs j : Int) + if k' = 1 then 0 else 1 := by
              unfold valM
              rw [he]
              by_cases e : k' = 1
              · rw [if_pos e] at hc ⊢; rw [hc]; rfl
              · rw [if_neg e] at hc ⊢; rw [hc]; rfl
            rw [hval] at v1 v2
            refine ⟨fun r hr => ⟨?_, hnoit r hr, hnong r hr⟩, fun hpos => ?_, hs, ?_⟩
            · rw [boundB_val (hsome r hr)]
              exact decide_eq_true (v1 r hr)
            · rcases v2 with v2 | ⟨r, hr, v2⟩
              · omega
              · refine ⟨r, hr, ?_⟩
                rw [boundB_val (hsome r hr), v2]
                exact decide_eq_false (by omega)
            · rcases hk with rfl | rfl | rfl
              · constructor
                · intro h; exact absurd h (by decide)
                · intro h; simp at h; omega
              · constructor
                · intro h; exact absurd h (by decide)
                · intro h; have := h3' rfl; simp at h; omega
              · constructor
                · intro _; have := h5 rfl; simp; omega
                · intro _; rfl
          split at h
          · rename_i hc
            injection h with ha h
            injection h with hb h
            exact ⟨1, stA cs j, ha.symm, hb.symm.trans he, hsome, Or.inl ⟨Or.inl rfl, fin 1 (Or.inl rfl) (by simpa using hc) (fun h => absurd h (by decide)) (fun h => absurd h (by decide))⟩⟩
          · rename_i hc
            have hc : c = true := by cases c <;> simp at hc ⊢
            split at h
            · rename_i h5
              injection h with ha h
              injection h with hb h
              exact ⟨5, stA cs j, ha.symm, hb.symm.trans he, hsome, Or.inl ⟨Or.inr (Or.inr rfl), fin 5 (Or.inr (Or.inr rfl)) (by simpa using hc) (fun _ => h5) (fun h => absurd h (by decide))⟩⟩
            · rename_i h5
              injection h with ha h
              injection h with hb h
              exact ⟨3, stA cs j, ha.symm, hb.symm.trans he, hsome, Or.inl ⟨Or.inr (Or.inl rfl), fin 3 (Or.inr (Or.inl rfl)) (by simpa using hc) (fun h => absurd h (by decide)) (fun _ => h5)⟩⟩
end Go.Proofs.Ytgnifglolbfamaa

/- Ahead of the walk of the law PlaceMoments. -/
set_option linter.unusedVariables false
set_option linter.unusedSimpArgs false
namespace Go.Proofs.Ytgnifglolbfamaa
open Go.RowKit Go.Proofs.YtgnifglolbfamaaW.PrintWords

theorem reads_lit {α : Type} {d : Kd α} {w : World} {g e : Nat} {arr : Array Value} (hb : w.heap[g]? = some (.cells arr e (0, 0))) {xs : List α} {n : Nat} (hn : n = xs.length) (hr : Reps (d.K w) d.sz xs arr.toList) (hs : 0 < d.sz) (hm : xs.length ≤ 9223372036854775807) : d.C w (some ⟨g, 0, none⟩) n xs := by
  subst hn
  refine ⟨rfl, hm, fun _ => ⟨_, rfl, fun j p hj => ?_⟩⟩
  have hl := hr.1
  have hjl := (List.getElem?_eq_some_iff.1 hj).1
  have hfit : j * d.sz + d.sz ≤ arr.toList.length := by
    rw [hl]
    have : (j + 1) * d.sz ≤ xs.length * d.sz := Nat.mul_le_mul_right _ hjl
    rw [Nat.add_mul, Nat.one_mul] at this
    exact this
  refine ⟨_, ?_, hr.2 j p hj, fun i u hu => ?_⟩
  · rw [List.length_take, List.length_drop]; omega
  · have hi := (List.getElem?_eq_some_iff.1 hu).1
    rw [List.length_take] at hi
    rw [List.getElem?_take_of_lt (by omega), List.getElem?_drop] at hu
    have e : Addr.add ⟨g, 0, none⟩ (j * d.sz + i) = ⟨g, j * d.sz + i, none⟩ := by
      simp only [Addr.add]
      split
      · rename_i h; rw [h]
      · simp
    rw [e, blk_cell hb, ← Array.getElem?_toList]
    exact hu
theorem anchorTop_err {cs : List Cp} {rs : List Rf} {a b f : Int} (h : anchorTop cs rs = (a, b, f)) (hf : f ≠ 0) : a = 0 ∧ b = 0 := by
  unfold anchorTop at h
  split at h
  · injection h with h1 h; injection h with h2 h; exact ⟨h1.symm, h2.symm⟩
  · unfold anchorOf at h
    split at h
    · injection h with h1 h; injection h with h2 h; exact ⟨h1.symm, h2.symm⟩
    · split at h
      · injection h with h1 h; injection h with h2 h; exact ⟨h1.symm, h2.symm⟩
      · split at h
        · injection h with h1 h; injection h with h2 h; exact absurd h.symm hf
        · split at h
          · injection h with h1 h; injection h with h2 h; exact absurd h.symm hf
          · split at h
            · injection h with h1 h; injection h with h2 h; exact absurd h.symm hf
            · split at h
              · injection h with h1 h; injection h with h2 h; exact absurd h.symm hf
              · injection h with h1 h; injection h with h2 h; exact absurd h.symm hf
theorem anchorTop_ok {cs : List Cp} {rs : List Rf} {a b : Int} (h : anchorTop cs rs = (a, b, 0)) : patErr cs = 0 ∧ anchorOf cs rs = (a, b, 0) := by
  unfold anchorTop at h
  split at h
  · rename_i hp
    injection h with h1 h; injection h with h2 h; exact absurd h hp
  · rename_i hp
    exact ⟨Classical.not_not.1 hp, h⟩

def True_ (w : World) (e : Ending) (w' : World) : Prop := e = .returned (.bool true) ∧ Below w.heap.size w w'
end Go.Proofs.Ytgnifglolbfamaa
