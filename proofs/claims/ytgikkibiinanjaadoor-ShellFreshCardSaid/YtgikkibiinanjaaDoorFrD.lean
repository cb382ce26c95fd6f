/- (*Book).grow, walked. -/
import Derived.Test.YtgikkibiinanjaaDoorFrC
import Derived.BigQuiet
import Derived.Deep.QuietTactic
set_option linter.unusedVariables false
set_option linter.unusedSimpArgs false
namespace Go.Proofs.YtgikkibiinanjaaDoor
open Go.RowKit

def Dist (es : List Rw) : Prop := ∀ i j (hi : i < es.length) (hj : j < es.length) (g : Nat), es[i].g = some g → es[j].g = some g → i = j
def BookS (G : Nat) (v : Value) (es : List Rw) : Nat → Prop := fun k => k = G ∨ v.ownBlock = some k ∨ ∃ r ∈ es, r.g = some k
/-- which contents are how, when the lists from a up to i have been written on. -/
def MI (es : List Rw) (a i : Nat) (M M' : Nat → Nat → Value) : Prop :=
  (∀ k (h : k < es.length), (k < a ∨ i ≤ k) → ∀ g, es[k].g = some g → M' g = M g) ∧
  (∀ k (h : k < es.length), a ≤ k → k < i → ∀ g, es[k].g = some g → ∀ j, M' g j = if es[k].n ≤ j ∧ j < es[k].n + rm es[k] then mark k else M g j)
def GrowPost (base G : Nat) (v : Value) (s : Int) (es : List Rw) (a : Nat) (M : Nat → Nat → Value) (w : World) (e : Ending) (w' : World) : Prop :=
  e = .returned (.tuple #[]) ∧ ∃ xs' M', Only (BookS G v es) w w' ∧ BookAt w' G base v xs' s ((2 * es.length : Nat) : Int) ∧ BookVals xs' es es.length ∧ AllIn w' es M' ∧ MI es a es.length M M'

theorem mem_get {es : List Rw} {i : Nat} (h : i < es.length) : es[i] ∈ es := List.getElem_mem h
theorem BookVals.step {xs : List Value} {es : List Rw} {i : Nat} (h : BookVals xs es i) (hi : i < es.length) : BookVals (xs.set (2 * i + 1) (es[i].v (es[i].n + rm es[i]))) es (i + 1) := by
  refine ⟨by rw [List.length_set]; exact h.1, fun k hk => ?_⟩
  obtain ⟨h1, h2⟩ := h.2 k hk
  refine ⟨by rw [List.getElem?_set_ne (by omega)]; exact h1, ?_⟩
  by_cases e : k = i
  · subst e
    rw [List.getElem?_set_self (by have := h.1; omega), if_pos (by omega)]
  · rw [List.getElem?_set_ne (by omega), h2]
    by_cases h3 : k < i
    · rw [if_pos h3, if_pos (by omega)]
    · rw [if_neg h3, if_neg (by omega)]
theorem MI.step {es : List Rw} {a i : Nat} {M M' : Nat → Nat → Value} (h : MI es a i M M') (hd : Dist es) (hi : i < es.length) (ha : a ≤ i) (g : Nat) (hg : es[i].g = some g) (f : Nat → Value)
    (hf : ∀ j, f j = if es[i].n ≤ j ∧ j < es[i].n + rm es[i] then mark i else M' g j) : MI es a (i + 1) M (Mput M' g f) := by
  obtain ⟨h1, h2⟩ := h
  refine ⟨fun k hk hc g' hg' => ?_, fun k hk hc hc2 g' hg' j => ?_⟩
  · have hne : g' ≠ g := fun e => by
      subst e
      have := hd k i hk hi g' hg' hg
      omega
    unfold Mput
    rw [if_neg hne]
    exact h1 k hk (by omega) g' hg'
  · by_cases e : k = i
    · subst e
      have : g' = g := by rw [hg] at hg'; exact (Option.some.inj hg').symm
      subst this
      unfold Mput
      rw [if_pos rfl, hf j, h1 k hk (Or.inr (Nat.le_refl _)) g' hg']
    · have hne : g' ≠ g := fun h => by
        subst h
        exact e (hd k i hk hi g' hg' hg)
      unfold Mput
      rw [if_neg hne]
      exact h2 k hk hc (by omega) g' hg' j
theorem MI.none {es : List Rw} {a i : Nat} {M M' : Nat → Nat → Value} (h : MI es a i M M') (hi : i < es.length) (hg : es[i].g = none) : MI es a (i + 1) M M' := by
  obtain ⟨h1, h2⟩ := h
  refine ⟨fun k hk hc g' hg' => h1 k hk (by omega) g' hg', fun k hk hc hc2 g' hg' j => ?_⟩
  by_cases e : k = i
  · subst e; rw [hg] at hg'; cases hg'
  · exact h2 k hk hc (by omega) g' hg' j

set_option maxHeartbeats 4000000 in
theorem grow_any (base G : Nat) (v : Value) (xs : List Value) (s : Int) (es : List Rw) (a : Nat) (M : Nat → Nat → Value) (w : World) (hB : base ≤ w.heap.size) (ht : Tab base w) (hG : base ≤ G)
    (hbk : BookAt w G base v xs s ((2 * a : Nat) : Int)) (hv : BookVals xs es a) (ha : a ≤ es.length) (hin : AllIn w es M) (hd : Dist es) (hrb : ∀ r ∈ es, ∀ g, r.g = some g → base ≤ g) (hlen : es.length ≤ 100000000) :
    Calls Tryd.prog 10 #[.pointer (some ⟨G, 0, none⟩)] w (GrowPost base G v s es a M w) := by
  obtain ⟨hG0, hO⟩ := hbk
  obtain ⟨A, c, rfl, hc1, hc2, hAg⟩ := own_form hO
  have hSb : ∀ k, k < base → ¬ BookS G (.slice A xs.length c) es k := by
    intro k hk h
    rcases h with h | h | ⟨r, hr, h⟩
    · omega
    · have := (hO.lt k h).1; omega
    · have := hrb r hr k h; omega
  have hL := hv.1
  have hlt1 : 2 * a ≤ xs.length := by omega
  generalize hLL : xs.length = L at *
  have HLL := Lib.hid hL
  have HG0 := Lib.hid hG0
  have HO := Lib.hid hO
  have HV := Lib.hid hv
  have HIN := Lib.hid hin
  have HD := Lib.hid hd
  have HRB := Lib.hid hrb
  have HSB := Lib.hid hSb
  have HT := Lib.hid ht
  have HAG := Lib.hid hAg
  have c0 := (cellB hG0 2).trans rfl
  clear hG0 hO hv hin hd hrb hSb ht hAg hL hLL
  go_enter Tryd.func10, Tryd.ntmps10
  go_wp2_with fail
  go_loopw [2] (fun t2 wr => ∃ i p : Nat, a ≤ i ∧ i ≤ es.length ∧ Hid (p = 2 * i) ∧ p ≤ L ∧ t2 = .int .i64 p ∧ ∃ xsi Mi, Hid (wr.heap[G]? = some (.cells #[.slice A L c, .int .i64 s, .int .i64 ((2 * a : Nat) : Int)] 26 (0, 0))) ∧ Hid (wr.ownsRow base 22 1 (.slice A L c) L xsi) ∧
    Hid (BookVals xsi es i) ∧ Hid (AllIn wr es Mi) ∧ Hid (MI es a i M Mi) ∧ Hid (Only (BookS G (.slice A L c) es) w wr)) (fun t2 _ => L - (intOf t2).toNat)
  case atStart => exact ⟨a, 2 * a, by omega, ha, Lib.hid rfl, by omega, rfl, xs, M, HG0, HO, HV, HIN, Lib.hid ⟨fun _ _ _ _ _ => rfl, fun k _ h1 h2 => by omega⟩, Lib.hid (Only.refl _ _)⟩
  case round =>
    clear c0
    obtain ⟨i, p, hai, hi, hp, hpL, rfl, xsi, Mi, hGi, hOi, hVi, hIi, hMi, hOn⟩ := hrel
    generalize wr = w2 at *
    have c0 := (cellB hGi.out 0).trans rfl
    by_cases hlt : i < es.length
    · have i1 : (0 : Int) ≤ (p : Int) := by omega
      have i2 : (p : Int) < L := by have := hp.out; have := HLL.out; omega
      obtain ⟨gl, rfl⟩ := HAG.out (by omega)
      obtain ⟨v1, v2⟩ := hVi.out.2 i hlt
      have hsz := hOn.out.size
      have hbl := hOn.out.below hB HSB.out
      have hII := hIi.out es[i] (mem_get hlt)
      have HM := Lib.hid (mem_get hlt)
      have hstep := Lib.hid (fun (g : Nat) (hg : es[i].g = some g) (f : Nat → Value) hf => hMi.out.step HD.out hlt hai g hg f hf)
      have hnone := Lib.hid (fun (hg : es[i].g = none) => hMi.out.none hlt hg)
      have hbv := Lib.hid (hVi.out.step hlt)
      generalize hrr : es[i] = r at *
      have HRR := Lib.hid hrr
      clear hrr
      unfold Rw.v at v1
      have cp : w2.cell? ⟨gl, p, none⟩ = some (.slice r.A r.n r.cap) := by
        rw [hOi.out.cellAt p (by omega), hp.out]
        exact v1
      have hcap := hII.capmax
      have hle := hII.le
      obtain ⟨kb, hkb⟩ : ∃ kb, mark i = .string kb := ⟨_, rfl⟩
      have HW : Hid (Calls Tryd.prog 14 #[.int .i64 ((p : Int) / 2)] w2 fun e w' => e = .returned (.string kb) ∧ Below w2.heap.size w2 w') := by
        have e : ((p : Int) / 2) = ((i : Nat) : Int) := by have := hp.out; omega
        rw [e, ← hkb]
        exact Lib.hid (word_any i (by omega) base w2 (by omega) (HT.out.on hbl))
      have HKB := Lib.hid hkb
      have HII := Lib.hid hII
      clear hkb v1 v2 hII
      go_wp2_with fail
      refine HW.out.mono ?_
      rintro e W1 ⟨rfl, hb1⟩
      have HO1 := Lib.hid (own_only (S := fun _ => False) hOi.out (Only.of_below hb1) (fun _ _ h => h))
      have HG1 := Lib.hid ((Only.of_below (S := fun _ => False) hb1).blk hGi.out (fun h => h))
      have HI1 := Lib.hid (HII.out.only (S := fun _ => False) (Only.of_below hb1) (fun _ _ h => h))
      have hsz1 := hb1.size
      clear c0 cp
      have hq : min ((r.cap : Int) - (r.n : Int)) 70000 = ((rm r : Nat) : Int) := by unfold rm; omega
      have hqc : r.n + rm r ≤ r.cap := by unfold rm; omega
      obtain ⟨q, hqe⟩ : ∃ q, q = rm r := ⟨_, rfl⟩
      rw [← hqe] at hq hqc
      have HQ := Lib.hid hqe
      clear hqe
      have hw1 : IntKind.i64.wrap ((r.cap : Int) - (r.n : Int)) = (r.cap : Int) - (r.n : Int) := IntWalk.i64_in _ (by omega)
      go_wp2_with fail
      go_loopw [3, 5] (fun t3 t5 wr => ∃ j m : Nat, j ≤ q ∧ t5 = .int .i64 j ∧ Hid (m = r.n + j) ∧ t3 = .slice r.A m r.cap ∧ ∃ f', Hid (r.In wr f') ∧ Hid (∀ t, f' t = if r.n ≤ t ∧ t < r.n + j then .string kb else cont Mi r t) ∧ Hid (Only (fun k => r.g = some k) W1 wr)) (fun _ t5 _ => q - (intOf t5).toNat)
      case atStart => exact ⟨0, r.n, by omega, rfl, Lib.hid rfl, rfl, cont Mi r, HI1, Lib.hid (fun t => by rw [if_neg (by omega)]), Lib.hid (Only.refl _ _)⟩
      case round =>
        obtain ⟨j, m, hj, rfl, hm, rfl, f', hIn, hF, hOn3⟩ := hrel
        generalize wr = w3 at *
        have hneG : ∀ b, r.g = some b → b ≠ G := fun b hb => by
          obtain ⟨cur, hc⟩ := HI1.out.blk b hb
          exact ne_type hc HG1.out (by decide)
        have HG3 := Lib.hid (hOn3.out.blk HG1.out (fun h => hneG _ h rfl))
        have HO3 := Lib.hid (own_only HO1.out hOn3.out (fun b hb h => by
          obtain ⟨cur, hc⟩ := HI1.out.blk b h
          obtain ⟨cur', hc'⟩ := own_blk HO1.out b hb
          exact ne_type hc hc' (by decide) rfl))
        have hsz3 := hOn3.out.size
        have c0 := (cellB HG3.out 0).trans rfl
        have cp : w3.cell? ⟨gl, p, none⟩ = some (.slice r.A r.n r.cap) := by
          obtain ⟨v1, v2⟩ := hVi.out.2 i hlt
          rw [HO3.out.cellAt p (by omega), hp.out, v1, HRR.out]
          rfl
        have HNG := Lib.hid hneG
        clear hneG
        by_cases hjl : j < q
        · have d1 : decide ((j : Int) < (q : Int)) = true := decide_eq_true (by omega)
          go_wp2_with fail
          go_quiet (first | (go_at_call 15; refine Calls.quiet_of_same (far_any _ _)))
          have hO4 : Only (fun k => r.g = some k) w3 (w3.drewN nq) := Only.drewN nq
          have hI4 := hIn.out.only (S := fun _ => False) (Only.drewN nq) (fun _ _ h => h)
          generalize w3.drewN nq = w4 at *
          have HO4 := Lib.hid hO4
          have HI4 := Lib.hid hI4
          clear c0 cp hO4 hI4
          have hmc : m < r.cap := by have := hm.out; omega
          go_wp2_with (at_builtin; go_must (refine app_room (W := w4) w4.heap.size (by rfl) (by rfl) _ _ (by rfl) r f' m HI4.out hmc _ (by rfl) _ (by rfl) (by rfl) (by rfl) ?_))
          intro w5 hI5 hO5
          go_wp2_with fail
          go_roundw
          case rel =>
            refine ⟨j + 1, m + 1, by omega, by go_num, Lib.hid (by rw [hm.out]; omega), rfl, _, hI5, Lib.hid (fun t => ?_), Lib.hid ((hOn3.out.same HO4.out).same hO5.out)⟩
            show (if t = m then .string kb else f' t) = _
            have hmm := hm.out
            rw [hF.out t]
            by_cases e : t = m
            · rw [if_pos e, if_pos (by omega)]
            · rw [if_neg e]
              by_cases h : r.n ≤ t ∧ t < r.n + j
              · rw [if_pos h, if_pos (by omega)]
              · rw [if_neg h, if_neg (by omega)]
          case measure => simp [intOf]; omega
        · obtain rfl : j = q := by omega
          have d1 : decide ((j : Int) < (j : Int)) = false := decide_eq_false (by omega)
          go_wp2_with fail
          go_quiet (first | (go_at_call 15; refine Calls.quiet_of_same (far_any _ _)))
          have hO4 : Only (fun k => r.g = some k) w3 (w3.drewN nq) := Only.drewN nq
          have hI4 := hIn.out.only (S := fun _ => False) (Only.drewN nq) (fun _ _ h => h)
          have hG4 : (w3.drewN nq).heap[G]? = _ := HG3.out
          have hO4' := own_only (S := fun _ => False) HO3.out (Only.drewN nq) (fun _ _ h => h)
          generalize w3.drewN nq = w4 at *
          have HO4 := Lib.hid hO4
          have HI4 := Lib.hid hI4
          have HG4 := Lib.hid hG4
          have HO4' := Lib.hid hO4'
          clear c0 cp hO4 hI4 hG4 hO4'
          have c0 := (cellB HG4.out 0).trans rfl
          have i3 : (0 : Int) ≤ (p : Int) + 1 := by omega
          have i4 : (p : Int) + 1 < (L : Int) := by have := hp.out; have := HLL.out; omega
          have hw2 : IntKind.i64.wrap ((p : Int) + 1) = (p : Int) + 1 := IntWalk.i64_in _ (by omega)
          have cq : ∃ u, w4.cell? ⟨gl, p + 1, none⟩ = some u := by
            rw [HO4'.out.cellAt (p + 1) (by omega)]
            exact ⟨_, List.getElem?_eq_getElem (by have := HO4'.out.1; omega)⟩
          obtain ⟨u, cq⟩ := cq
          have cz := HO4'.out.frozenAt (p + 1)
          have hlt4 : w2.heap.size ≤ w4.heap.size := by have := HO4.out.size; omega
          have hOnA : Hid (Only (fun k => r.g = some k) w2 w4) := Lib.hid (((Only.of_below hb1).same hOn3.out).same HO4.out)
          have hneL : Hid (∀ r' ∈ es, ∀ b, r'.g = some b → b ≠ gl) := Lib.hid (fun r' hr' b hb => by
            obtain ⟨cur, hc⟩ := (hIi.out r' hr').blk b hb
            obtain ⟨cur', hc'⟩ := own_blk hOi.out gl rfl
            exact ne_type hc hc' (by decide))
          have hneG : Hid (gl ≠ G) := Lib.hid (by
            obtain ⟨cur', hc'⟩ := own_blk HO4'.out gl rfl
            exact ne_type hc' HG4.out (by decide))
          clear hOn3
          go_wp2_with fail
          go_roundw
          case rel =>
            have hall : ∃ M', AllIn (w4.setCell ⟨gl, p + 1, none⟩ (.slice r.A m r.cap)) es M' ∧ MI es a (i + 1) M M' := by
              rcases hg : r.g with _ | g
              · refine ⟨Mi, (hIi.out.only hOnA.out (fun r' hr' b hb h => by rw [hg] at h; cases h)).only (Only.setCell (S := fun k => k = gl) _ _ rfl) (fun r' hr' b hb h => hneL.out r' hr' b hb h), hnone.out hg⟩
              · refine ⟨Mput Mi g f', (AllIn.put hIi.out hg hOnA.out (fun r' hr' hg' => ?_)).only (Only.setCell (S := fun k => k = gl) _ _ rfl) (fun r' hr' b hb h => hneL.out r' hr' b hb h), hstep.out g hg f' (fun j => ?_)⟩
                · obtain ⟨k', hk', rfl⟩ := List.getElem_of_mem hr'
                  have := HD.out k' i hk' hlt g hg' (by rw [HRR.out]; exact hg)
                  subst this
                  rw [HRR.out]
                  exact HI4.out
                · rw [hF.out j, HQ.out, cont_some hg, HKB.out]
            obtain ⟨M', hA', hM'⟩ := hall
            refine ⟨i + 1, p + 2, by omega, by omega, Lib.hid (by rw [hp.out]; omega), by have := hp.out; have := HLL.out; omega, by go_num, xsi.set (p + 1) (.slice r.A m r.cap), M', Lib.hid ?_, Lib.hid (HO4'.out.stored (p + 1) _).1, Lib.hid ?_, Lib.hid hA', Lib.hid hM', Lib.hid ?_⟩
            · exact (Only.setCell (S := fun k => k = gl) ⟨gl, p + 1, none⟩ _ rfl).blk HG4.out (fun h => hneG.out h.symm)
            · have h := hbv.out
              rw [← HQ.out, ← hm.out, ← hp.out] at h
              exact h
            · refine (hOn.out.same (hOnA.out.mono (fun b _ h => Or.inr (Or.inr ⟨r, HM.out, h⟩)))).same (Only.setCell _ _ (Or.inr (Or.inl rfl)))
          case measure => simp [intOf]; omega
    · obtain rfl : i = es.length := by omega
      have hpl : p = L := by have := hp.out; have := HLL.out; omega
      have z2 := frozenB hGi.out 2
      have c2 := (cellB hGi.out 2).trans rfl
      have HP := Lib.hid hpl
      have i2 : decide (p < L) = false := decide_eq_false (by omega)
      have i3 : ¬ p < L := by omega
      clear hpl
      go_wp2_with fail
      go_end0
      have hLe : (L : Int) = ((2 * es.length : Nat) : Int) := by have := HLL.out; omega
      have hxl : xsi.length = L := by have := hOi.out.1; omega
      refine ⟨rfl, xsi, Mi, hOn.out.same (Only.setCell _ _ (Or.inl rfl)), ⟨setB hGi.out 2 _ (by rw [← hLe]; rfl), ?_⟩, hVi.out, hIi.out.only (Only.setCell (S := fun k => k = G) _ _ rfl) (fun r' hr' b hb h => ?_), hMi.out⟩
      · rw [hxl]
        exact own_only hOi.out (Only.setCell (S := fun k => k = G) _ _ rfl) (fun b hb h => by
          subst h
          obtain ⟨cur', hc'⟩ := own_blk hOi.out _ hb
          exact ne_type hc' hGi.out (by decide) rfl)
      · subst h
        obtain ⟨cur, hc⟩ := (hIi.out r' hr').blk _ hb
        exact ne_type hc hGi.out (by decide) rfl
end Go.Proofs.YtgikkibiinanjaaDoor
