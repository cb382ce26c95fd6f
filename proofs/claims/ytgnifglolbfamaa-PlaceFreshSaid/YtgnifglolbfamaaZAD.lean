/- Texts of the claim, merged in build order: PlI, PlJ, PlK, PlL, PlM. -/
import Derived.Test.YtgnifglolbfamaaZAC
import Derived.StillTailTactics
import Derived.Lib.Strings
/- The walk of pattern.anchor. -/
set_option linter.unusedVariables false
set_option linter.unusedSimpArgs false
namespace Go.Proofs.Ytgnifglolbfamaa
open Go.RowKit Go.Proofs.YtgnifglolbfamaaW.PrintWords

theorem stgs_len (cs : List Cp) : (stgs cs).length = cs.length := by simp [stgs]
theorem PatAt.parts {w : World} {gp : Nat} {A : Option Addr} {c : Nat} {cs : List Cp} (h : PatAt w gp A c cs) :
    ∃ gm Av cv, w.heap[gp]? = some (.cells #[.slice A cs.length c, .map (some gm), .slice Av cs.length cv, .int .i64 (stg cs)] 124 (0, 0)) ∧ KeyMap w gm cs.length (vix cs) ∧
      ∀ j, j < cs.length → ∃ ad, Av = some ad ∧ w.cell? (ad.add j) = some (.int .i64 (stg (cs.take j) : Int)) := by
  obtain ⟨h1, h2, h3, gm, v2, h4, h5, base, h6⟩ := h
  obtain ⟨Av, cv, rfl, hc, hC⟩ := Kd.R_reads h6
  rw [stgs_len] at h4 hC
  refine ⟨gm, Av, cv, h4, h5, fun j hj => ?_⟩
  have hr := Kd.reads_of_C (d := (0 : Int)) hC
  obtain ⟨ad, hA, hcell⟩ := hr.at_ (j : Int) (by omega) (by omega)
  refine ⟨ad, hA, ?_⟩
  rw [Int.toNat_natCast] at hcell
  rw [hcell]
  have : rdOf (0 : Int) (stgs cs) (j : Int) = (stg (cs.take j) : Int) := by
    simp [rdOf, stgs, List.getD_eq_getElem?_getD, hj]
  rw [this]

/-- The moment at which a reference is bound. -/
def refMom (cs : List Cp) (r : Rf) : Int × Bool := ((stg (cs.take (cix cs r).toNat) : Int), r.f1 == 5 || r.f1 == 6)
def lastMom (cs : List Cp) (rs : List Rf) : Int × Bool := rs.foldl (fun m r => laterM m (refMom cs r)) (0, false)
def anchorOf (cs : List Cp) (rs : List Rf) : Int × Int × Int :=
  match rs.find? (fun r => usedErr cs r != 0) with
  | some r => (0, 0, usedErr cs r)
  | none =>
    if (mixOf cs rs).2.2 ≠ 0 then (0, 0, (mixOf cs rs).2.2)
    else if (mixOf cs rs).1 ≥ 0 then (2, (stg (cs.take (mixOf cs rs).1.toNat) : Int), 0)
    else if (mixOf cs rs).2.1 ≥ 0 then (4, (mixOf cs rs).2.1, 0)
    else if (lastMom cs rs).2 = false then (1, (lastMom cs rs).1, 0)
    else if (lastMom cs rs).1 = (stg cs : Int) - 1 then (5, (lastMom cs rs).1, 0)
    else (3, (lastMom cs rs).1, 0)

theorem usedErr_zero {cs : List Cp} {r : Rf} (h : usedErr cs r = 0) : (vix cs r.f0.data.toList).isSome = true := by
  unfold usedErr at h
  cases hv : vix cs r.f0.data.toList with
  | none => rw [hv] at h; simp at h
  | some i => rfl
theorem find_take {α : Type} (p : α → Bool) (L : List α) (k : Nat) (hk : k < L.length) (h : (L.take k).find? p = none) (hp : p L[k] = true) : L.find? p = some L[k] := by
  conv => lhs; rw [← List.take_append_drop k L]
  rw [List.find?_append, h, List.drop_eq_getElem_cons hk, List.find?_cons, hp]
  rfl
theorem find_take_succ {α : Type} (p : α → Bool) (L : List α) (k : Nat) (hk : k < L.length) (h : (L.take k).find? p = none) (hp : p L[k] = false) : (L.take (k + 1)).find? p = none := by
  rw [List.take_succ_eq_append_getElem hk, List.find?_append, h]
  simp [hp]

theorem cix_bound {cs : List Cp} {r : Rf} (h : (vix cs r.f0.data.toList).isSome = true) : 0 ≤ cix cs r ∧ cix cs r < cs.length := by
  obtain ⟨i, hi⟩ := Option.isSome_iff_exists.1 h
  have := vix_bound _ _ _ hi
  simpa [cix, hi] using this
theorem mix1_bound (cs : List Cp) : ∀ (rs : List Rf) (p q : Int × Int), RefsIn cs rs → rs.foldlM (mstep cs) p = some q → p.1 < cs.length → p.2 < cs.length → q.1 < cs.length ∧ q.2 < cs.length
  | [], p, q, _, h, h1, h2 => by
    have h : some p = some q := h
    injection h with h
    subst h
    exact ⟨h1, h2⟩
  | r :: rs, p, q, hin, h, h1, h2 => by
    have hb := cix_bound (hin r (by simp)).2
    rw [List.foldlM_cons] at h
    cases hs : mstep cs p r with
    | none => rw [hs] at h; exact absurd h (by simp)
    | some t =>
      rw [hs] at h
      have ht : t.1 < cs.length ∧ t.2 < cs.length := by
        unfold mstep mstepB at hs
        split at hs
        · exact absurd hs (by simp)
        · split at hs
          · exact absurd hs (by simp)
          · injection hs with hs
            subst hs
            refine ⟨?_, ?_⟩ <;> dsimp only <;> split <;> first | exact hb.2 | exact h1 | exact h2
      exact mix1_bound cs rs t q (fun r hr => hin r (by simp [hr])) h ht.1 ht.2
theorem mixOf_bound (cs : List Cp) (rs : List Rf) (hin : RefsIn cs rs) (h0 : 0 < cs.length) : (mixOf cs rs).1 < cs.length ∧ (mixOf cs rs).2.1 < cs.length := by
  unfold mixOf
  cases h : mix1 cs rs with
  | none => simp; omega
  | some p =>
    have := mix1_bound cs rs (-1, -1) p hin h (by show (-1 : Int) < _; omega) (by show (-1 : Int) < _; omega)
    dsimp only
    split
    · simp; omega
    · exact this

set_option maxHeartbeats 4000000 in
set_option maxRecDepth 100000 in
theorem anchor_any (cs : List Cp) (gp : Nat) (A : Option Addr) (c : Nat) (x : Ex) (B : Option Addr) (cb : Nat) (w : World) (h0 : 0 < cs.length) (hp : PatAt w gp A c cs) (hnm : ∀ r ∈ refsOf x, r.f0.size ≤ maxLen)
    (hN : exN x ≤ 100000000000) (hc : x.f6.length ≤ cb) (hC : kEx.C w B x.f6.length x.f6) :
    Calls Try.prog 39 #[.pointer (some ⟨gp, 0, none⟩), exV x (.slice B x.f6.length cb)] w (MixPost (anchorOf cs (refsOf x)) w) := by
  have hrf := refs_any x B cb (w.alloc (.cells #[.int .i64 x.f0, .int .i64 x.f1, .int .i64 x.f2.f0, .int .i64 x.f2.f1, .string x.f2.f2, .bool x.f2.f3, .string x.f3, .int .i64 x.f4, .string x.f5, .slice B x.f6.length cb] 31)) hN hc (Kd.C_below hC (below_new _ _))
  have HP := Lib.hid hp
  have HNM := Lib.hid hnm
  generalize refsOf x = rs at *
  obtain ⟨res, hres⟩ : ∃ res, res = anchorOf cs rs := ⟨_, rfl⟩
  rw [← hres]
  unfold anchorOf at hres
  have HRES := Lib.hid hres
  clear hp hnm hN hc hC hres
  unfold exV at hrf ⊢
  go_enter Try.func39, Try.ntmps39
  go_wp2_with fail
  refine hrf.mono ?_
  rintro e W1 ⟨hb1, v1, rfl, hr1⟩
  obtain ⟨B1, c1, rfl, hc1, hC1⟩ := Kd.R_reads hr1
  have hB1 := below_step (below_new w _) hb1
  have HR := Lib.hid hC1
  have hmx := hC1.2.1
  have HP1 := Lib.hid (HP.out.below hB1)
  clear hr1 hC1 hb1 hrf HP
  go_wp2_with fail
  go_loopw [21] (fun t21 wr => ∃ k : Nat, k ≤ rs.length ∧ t21 = .int .i64 k ∧ Below W1.heap.size W1 wr ∧ Hid ((rs.take k).find? (fun r => usedErr cs r != 0) = none)) (fun t21 _ => rs.length - (intOf t21).toNat)
  case atStart => exact ⟨0, by omega, rfl, Below.refl _ _, Lib.hid rfl⟩
  case round =>
    obtain ⟨k, hk, rfl, hB, hO⟩ := hrel
    by_cases hlt : k < rs.length
    · obtain ⟨ad, rfl, e0, e1, e2, e3⟩ := atRfN HR.out k hlt hlt
      have i1 : (0 : Int) ≤ (k : Int) := by omega
      have i2 : (k : Int) < rs.length := by omega
      have e0 := pw_cell_below hB e0
      have e1 := pw_cell_below hB e1
      have e2 := pw_cell_below hB e2
      have e3 := pw_cell_below hB e3
      have hnmk := HNM.out _ (List.getElem_mem hlt)
      have HF1 := Lib.hid (find_take (fun r => usedErr cs r != 0) rs k hlt hO.out)
      have HF2 := Lib.hid (find_take_succ (fun r => usedErr cs r != 0) rs k hlt hO.out)
      generalize rs[k] = r at *
      have hu := used_any cs gp A c r _ ((HP1.out.below hB).below (below_new wr (.cells #[.string r.f0, .int .i64 r.f1, .string r.f2, .int .i64 r.f3] 42))) hnmk
      obtain ⟨ue, hue⟩ : ∃ ue, ue = usedErr cs r := ⟨_, rfl⟩
      rw [← hue] at hu
      have HUE := Lib.hid hue
      have HU := Lib.hid hu
      clear hu hue
      go_wp2_with fail
      refine HU.out.mono ?_
      rintro e W3 ⟨rfl, hb3⟩
      have hB3 := below_step hB (below_step (below_new wr _) hb3)
      rcases Bool.eq_false_or_eq_true (ue != 0) with d | d
      · go_wp2_with fail
        go_ret3
        refine ⟨below_step hB1 hB3, ?_⟩
        rw [HRES.out, HF1.out (by simpa [HUE.out] using d)]
        show _ = Ending.returned (.tuple #[.int .i64 0, .int .i64 0, .int .i64 (usedErr cs r)])
        rw [← HUE.out]
        rfl
      · go_wp2_with fail
        go_roundw
        case rel => exact ⟨k + 1, by omega, by go_num, hB3, Lib.hid (HF2.out (by simpa [HUE.out] using d))⟩
        case measure => simp [intOf]; omega
    · have hO2 := hO.out
      rw [List.take_of_length_le (by omega)] at hO2
      have hin : RefsIn cs rs := fun r hr => ⟨HNM.out r hr, usedErr_zero (by have := List.find?_eq_none.1 hO2 r hr; simpa using this)⟩
      have hm := mixed_any cs gp A c rs B1 c1 wr (HP1.out.below hB) hin (Kd.C_below HR.out hB)
      have hbd := mixOf_bound cs rs hin h0
      have hR0 := HRES.out
      rw [hO2] at hR0
      dsimp only at hR0
      generalize mixOf cs rs = m at *
      obtain ⟨m1, m2, m3⟩ := m
      dsimp only at hR0 hbd
      have HRS := Lib.hid hR0
      have HM := Lib.hid hm
      have HIN := Lib.hid hin
      obtain ⟨hbd1, hbd2⟩ := hbd
      have hBw := below_step hB1 hB
      have HPw := Lib.hid (HP1.out.below hB)
      clear hR0 hm hin hO2 hO HP1
      unfold MixPost at HM
      go_wp2_with fail
      refine HM.out.mono ?_
      rintro e W3 ⟨hb3, rfl⟩
      have hB3 := below_step hBw hb3
      rcases Bool.eq_false_or_eq_true (m3 != 0) with d1 | d1
      · have HE := Lib.hid (show res = (0, 0, m3) by simp at d1; rw [HRS.out, if_pos d1])
        go_wp2_with fail
        go_ret3
        exact ⟨hB3, by rw [HE.out]; rfl⟩
      · have hm3 : m3 = 0 := by simpa using d1
        rcases Bool.eq_false_or_eq_true (decide (m1 ≥ 0)) with d2 | d2
        · have HE := Lib.hid (show res = (2, (stg (cs.take m1.toNat) : Int), 0) by simp at d2; rw [HRS.out, if_neg (by simp [hm3]), if_pos d2])
          have hm1 : 0 ≤ m1 := by simpa using d2
          obtain ⟨gm, Av, cv, h4, h5, h6⟩ := PatAt.parts (HPw.out.below hb3)
          obtain ⟨j, rfl⟩ : ∃ j : Nat, m1 = j := ⟨m1.toNat, by omega⟩
          obtain ⟨ad, rfl, c0⟩ := h6 j (by omega)
          have i1 : (0 : Int) ≤ (j : Int) := by omega
          have p2 := (blk_cell h4 2).trans rfl
          rw [Int.toNat_natCast] at HE
          clear h4 h5 h6
          go_wp2_with fail
          go_quiet (fail)
          go_wp2_with fail
          go_ret3
          exact ⟨pw_below_drewN hB3 _, by rw [HE.out]; rfl⟩
        · rcases Bool.eq_false_or_eq_true (decide (m2 ≥ 0)) with d3 | d3
          · have HE := Lib.hid (show res = (4, m2, 0) by simp at d2 d3; rw [HRS.out, if_neg (by simp [hm3]), if_neg (by omega), if_pos d3])
            go_wp2_with fail
            go_ret3
            exact ⟨hB3, by rw [HE.out]; rfl⟩
          · have HE := Lib.hid (show res = if (lastMom cs rs).2 = false then (1, (lastMom cs rs).1, 0) else if (lastMom cs rs).1 = (stg cs : Int) - 1 then (5, (lastMom cs rs).1, 0) else (3, (lastMom cs rs).1, 0) by
              simp at d2 d3; rw [HRS.out, if_neg (by simp [hm3]), if_neg (by omega), if_neg (by omega)])
            have HP3 := Lib.hid (HPw.out.below hb3)
            have HR3 := Lib.hid (Kd.C_below (Kd.C_below HR.out hB) hb3)
            clear HRS HM HPw HR hb3 hB
            go_wp2_with fail
            have hZ := blk_new W3 (.cells #[.int .i64 0, .bool false] 129)
            have hbZ := below_new W3 (.cells #[.int .i64 0, .bool false] 129)
            go_loopw [59] (fun t59 wr => ∃ k : Nat, k ≤ rs.length ∧ t59 = .int .i64 k ∧ Below W3.heap.size W3 wr ∧ ∃ mo : Int × Bool, Hid (wr.heap[W3.heap.size]? = some (.cells #[.int .i64 mo.1, .bool mo.2] 129 (0, 0))) ∧ Hid (mo = lastMom cs (rs.take k))) (fun t59 _ => rs.length - (intOf t59).toNat)
            case atStart => exact ⟨0, by omega, rfl, hbZ, (0, false), Lib.hid hZ, Lib.hid rfl⟩
            case round =>
              clear hZ hbZ
              obtain ⟨k, hk, rfl, hB, mo, hZ, hmo⟩ := hrel
              by_cases hlt : k < rs.length
              · obtain ⟨ad, rfl, e0, e1, e2, e3⟩ := atRfN HR3.out k hlt hlt
                have i1 : (0 : Int) ≤ (k : Int) := by omega
                have i2 : (k : Int) < rs.length := by omega
                have e0 := pw_cell_below hB e0
                have e1 := pw_cell_below hB e1
                have e2 := pw_cell_below hB e2
                have e3 := pw_cell_below hB e3
                obtain ⟨hnm, hinr⟩ := HIN.out _ (List.getElem_mem hlt)
                have HT := Lib.hid (show lastMom cs (rs.take (k + 1)) = laterM mo (refMom cs rs[k]) by
                  rw [List.take_succ_eq_append_getElem hlt, hmo.out]; unfold lastMom; rw [List.foldl_append]; rfl)
                generalize rs[k] = r at *
                obtain ⟨gm, Av, cv, h4, h5, h6⟩ := PatAt.parts ((HP3.out.below hB).below (below_new wr (.cells #[.string r.f0, .int .i64 r.f1, .string r.f2, .int .i64 r.f3] 42)))
                have hZ1 := blk_alloc hZ.out (.cells #[.string r.f0, .int .i64 r.f1, .string r.f2, .int .i64 r.f3] 42)
                have hX1 := blk_new wr (.cells #[.string r.f0, .int .i64 r.f1, .string r.f2, .int .i64 r.f3] 42)
                have hB4 := below_step hB (below_new wr (.cells #[.string r.f0, .int .i64 r.f1, .string r.f2, .int .i64 r.f3] 42))
                have hzl := blk_lt hZ.out
                obtain ⟨i, hi⟩ := Option.isSome_iff_exists.1 hinr
                obtain ⟨hi0, hi1⟩ := vix_bound _ _ _ hi
                obtain ⟨j, rfl⟩ : ∃ j : Nat, i = j := ⟨i.toNat, by omega⟩
                have hj : j < cs.length := by omega
                obtain ⟨ad2, rfl, c0⟩ := h6 j hj
                have HRM := Lib.hid (show refMom cs r = ((stg (cs.take j) : Int), r.f1 == 5 || r.f1 == 6) by simp [refMom, cix, hi])
                go_wp2_with fail
                generalize wr.alloc (.cells #[.string r.f0, .int .i64 r.f1, .string r.f2, .int .i64 r.f3] 42) = W2 at *
                have hlk := fun nq => (h5.below (pw_below_drewN (Below.refl _ _) nq)).at_ r.f0 hnm
                have hlk1 := (h5.below (below_drew (Below.refl _ _))).at_ r.f0 hnm
                simp only [hi, Option.getD_some] at hlk hlk1
                have p1 := (blk_cell h4 1).trans rfl
                have p2 := (blk_cell h4 2).trans rfl
                have z0 := (blk_cell hZ1 0).trans rfl
                have z1 := (blk_cell hZ1 1).trans rfl
                have x0 := (blk_cell hX1 0).trans rfl
                have x1 := (blk_cell hX1 1).trans rfl
                have hj1 : (0 : Int) ≤ (j : Int) := by omega
                have hj2 : (j : Int) < cs.length := by omega
                clear hi hi0 hi1 hinr h5 h6 e0 e1 e2 e3
                have hB5 := below_drew hB4
                have hZ5 := blk_drew hZ1
                have fin : ∀ (tb : Bool), (r.f1 == 5 || r.f1 == 6) = tb → Hid (refMom cs r = ((stg (cs.take j) : Int), tb)) := fun tb h => Lib.hid (by rw [HRM.out, h])
                have hcase : (∃ u : Unit, (r.f1 == 5) = true ∧ Hid (refMom cs r = ((stg (cs.take j) : Int), true))) ∨ ((r.f1 == 5) = false ∧ (r.f1 == 6) = true ∧ Hid (refMom cs r = ((stg (cs.take j) : Int), true))) ∨ ((r.f1 == 5) = false ∧ (r.f1 == 6) = false ∧ Hid (refMom cs r = ((stg (cs.take j) : Int), false))) := by
                  rcases Bool.eq_false_or_eq_true (r.f1 == 5) with d5 | d5
                  · exact Or.inl ⟨(), d5, fin true (by rw [d5]; rfl)⟩
                  · rcases Bool.eq_false_or_eq_true (r.f1 == 6) with d6 | d6
                    · exact Or.inr (Or.inl ⟨d5, d6, fin true (by rw [d5, d6]; rfl)⟩)
                    · exact Or.inr (Or.inr ⟨d5, d6, fin false (by rw [d5, d6]; rfl)⟩)
                clear fin HRM
                rcases hcase with ⟨_, d5, HRM⟩ | ⟨d5, d6, HRM⟩ | ⟨d5, d6, HRM⟩
                all_goals
                  go_still_tail 23, (by kernel_rfl)
                  change wpList _ _ _ _ _ W2.drew
                  have p1 := (blk_cell (blk_drew h4) 1).trans rfl
                  have p2 := (blk_cell (blk_drew h4) 2).trans rfl
                  have z0 := (blk_cell hZ5 0).trans rfl
                  have z1 := (blk_cell hZ5 1).trans rfl
                  have x0 := (blk_cell (blk_drew hX1) 0).trans rfl
                  have x1 := (blk_cell (blk_drew hX1) 1).trans rfl
                  have c0 := pw_cell_below (below_drew (Below.refl _ _)) c0
                  clear hlk
                  generalize W2.drew = W4 at *
                  go_wp2_with fail
                iterate 2
                  · refine (later_any mo (((stg (cs.take j) : Nat) : Int), true) _).mono ?_
                    rintro e W5 ⟨rfl, hb5⟩
                    have hZ6 := blk_below hZ5 hb5
                    have hf0 := blk_frozen hZ6 0
                    have hf1 := blk_frozen hZ6 1
                    have z0 := (blk_cell hZ6 0).trans rfl
                    have z1 := (blk_cell hZ6 1).trans rfl
                    have hB6 := below_step hB5 hb5
                    go_wp2_with fail
                    go_roundw
                    case rel => exact ⟨k + 1, by omega, by go_num, (hB6.setCell (p := ⟨W3.heap.size, 0, none⟩) (Nat.le_refl _) _).setCell (p := ⟨W3.heap.size, 1, none⟩) (Nat.le_refl _) _, laterM mo (((stg (cs.take j) : Nat) : Int), true), Lib.hid (blk_set (blk_set hZ6 0 _) 1 _), Lib.hid (by rw [HT.out, HRM.out])⟩
                    case measure => simp [intOf]; omega
                · refine (later_any mo (((stg (cs.take j) : Nat) : Int), false) _).mono ?_
                  rintro e W5 ⟨rfl, hb5⟩
                  have hZ6 := blk_below hZ5 hb5
                  have hf0 := blk_frozen hZ6 0
                  have hf1 := blk_frozen hZ6 1
                  have z0 := (blk_cell hZ6 0).trans rfl
                  have z1 := (blk_cell hZ6 1).trans rfl
                  have hB6 := below_step hB5 hb5
                  go_wp2_with fail
                  go_roundw
                  case rel => exact ⟨k + 1, by omega, by go_num, (hB6.setCell (p := ⟨W3.heap.size, 0, none⟩) (Nat.le_refl _) _).setCell (p := ⟨W3.heap.size, 1, none⟩) (Nat.le_refl _) _, laterM mo (((stg (cs.take j) : Nat) : Int), false), Lib.hid (blk_set (blk_set hZ6 0 _) 1 _), Lib.hid (by rw [HT.out, HRM.out])⟩
                  case measure => simp [intOf]; omega
              · have hm2 := hmo.out
                rw [List.take_of_length_le (by omega)] at hm2
                have HE2 := Lib.hid (show res = if mo.2 = false then (1, mo.1, 0) else if mo.1 = (stg cs : Int) - 1 then (5, mo.1, 0) else (3, mo.1, 0) by rw [HE.out, hm2])
                have hBr := below_step hB3 hB
                have hP5 := HP3.out.below hB
                have hsl := stg_len cs
                have hcl := hP5.reads.2.1
                obtain ⟨gm, Av, cv, h4, h5, h6⟩ := PatAt.parts hP5
                clear h5 h6 hP5 hm2 HE
                have p3 := (blk_cell h4 3).trans rfl
                have z0 := (blk_cell hZ.out 0).trans rfl
                have z1 := (blk_cell hZ.out 1).trans rfl
                obtain ⟨mo1, mo2⟩ := mo
                cases mo2 with
                | false =>
                  go_wp2_with fail
                  go_quiet (fail)
                  go_wp2_with fail
                  go_ret3
                  exact ⟨pw_below_drewN hBr _, by rw [HE2.out]; rfl⟩
                | true =>
                  rcases Bool.eq_false_or_eq_true (mo1 == (stg cs : Int) - 1) with d7 | d7
                  · have HE := Lib.hid (show res = (5, mo1, 0) by rw [HE2.out]; simp at d7; simp [d7])
                    go_wp2_with fail
                    go_quiet (fail)
                    go_wp2_with fail
                    go_quiet (fail)
                    go_wp2_with fail
                    go_ret3
                    exact ⟨pw_below_drewN (pw_below_drewN hBr _) _, by rw [HE.out]; rfl⟩
                  · have HE := Lib.hid (show res = (3, mo1, 0) by rw [HE2.out]; simp at d7; simp [d7])
                    go_wp2_with fail
                    go_quiet (fail)
                    go_wp2_with fail
                    go_quiet (fail)
                    go_wp2_with fail
                    go_ret3
                    exact ⟨pw_below_drewN (pw_below_drewN hBr _) _, by rw [HE.out]; rfl⟩
end Go.Proofs.Ytgnifglolbfamaa

/- The walk of place.Anchor. -/
set_option linter.unusedVariables false
set_option linter.unusedSimpArgs false
namespace Go.Proofs.Ytgnifglolbfamaa
open Go.RowKit Go.Proofs.YtgnifglolbfamaaW.PrintWords

def anchorTop (cs : List Cp) (rs : List Rf) : Int × Int × Int := if patErr cs ≠ 0 then (0, 0, patErr cs) else anchorOf cs rs
theorem patErr_pos {cs : List Cp} (h : patErr cs = 0) : 0 < cs.length ∧ cs.length ≤ 8 := by
  unfold patErr at h
  split at h
  · exact absurd h (by decide)
  · omega

set_option maxHeartbeats 2000000 in
set_option maxRecDepth 100000 in
theorem Anchor_any (cs : List Cp) (A : Option Addr) (c : Nat) (q1 : ByteArray) (q2 : Int) (v3 v4 : Value) (q5 : Int) (q6 : ByteArray) (v7 : Value) (h3 : v3.oneCell' = true) (h4 : v4.oneCell' = true) (h7 : v7.oneCell' = true) (x : Ex) (B : Option Addr) (cb : Nat) (w : World)
    (hc : cs.length ≤ c) (hC : kCp.C w A cs.length cs) (hnm : ∀ x ∈ cs, x.f3.size ≤ maxLen) (hnr : ∀ r ∈ refsOf x, r.f0.size ≤ maxLen) (hN : exN x ≤ 100000000000) (hcb : x.f6.length ≤ cb) (hCx : kEx.C w B x.f6.length x.f6) :
    Calls Try.prog 11 #[.agg #[.slice A cs.length c, .string q1, .int .i64 q2, v3, v4, .int .i64 q5, .string q6, v7], exV x (.slice B x.f6.length cb)] w (MixPost (anchorTop cs (refsOf x)) w) := by
  have hb2 := below_step (below_new w (.cells #[.slice A cs.length c, .string q1, .int .i64 q2, v3, v4, .int .i64 q5, .string q6, v7] 27)) (below_new _ (.cells #[.int .i64 x.f0, .int .i64 x.f1, .int .i64 x.f2.f0, .int .i64 x.f2.f1, .string x.f2.f2, .bool x.f2.f3, .string x.f3, .int .i64 x.f4, .string x.f5, .slice B x.f6.length cb] 31))
  have hpat := patternOf_any cs A c q1 q2 v3 v4 q5 q6 v7 h3 h4 h7 _ hc (Kd.C_below hC hb2) hnm
  have hX := blk_new1 w (.cells #[.slice A cs.length c, .string q1, .int .i64 q2, v3, v4, .int .i64 q5, .string q6, v7] 27) (.cells #[.int .i64 x.f0, .int .i64 x.f1, .int .i64 x.f2.f0, .int .i64 x.f2.f1, .string x.f2.f2, .bool x.f2.f3, .string x.f3, .int .i64 x.f4, .string x.f5, .slice B x.f6.length cb] 31)
  have hanc := fun gp W h0 hp hCW => anchor_any cs gp A c x B cb W h0 hp hnr hN hcb hCW
  obtain ⟨pe, hpe⟩ : ∃ pe, pe = patErr cs := ⟨_, rfl⟩
  have hpos := @patErr_pos cs
  unfold PatPost at hpat
  rw [← hpe] at hpat hpos
  obtain ⟨res, hres⟩ : ∃ res, res = anchorTop cs (refsOf x) := ⟨_, rfl⟩
  rw [← hres]
  unfold anchorTop at hres
  rw [← hpe] at hres
  have HRES := Lib.hid hres
  have HPOS := Lib.hid hpos
  have HA := Lib.hid hanc
  have HCX := Lib.hid (Kd.C_below hCx hb2)
  clear hres hpos hanc hC hCx hnm hnr hN hcb hc hpe
  unfold exV at *
  go_enter Try.func11, Try.ntmps11
  go_wp2_with fail
  generalize (w.alloc (.cells #[.slice A cs.length c, .string q1, .int .i64 q2, v3, v4, .int .i64 q5, .string q6, v7] 27)).alloc (.cells #[.int .i64 x.f0, .int .i64 x.f1, .int .i64 x.f2.f0, .int .i64 x.f2.f1, .string x.f2.f2, .bool x.f2.f3, .string x.f3, .int .i64 x.f4, .string x.f5, .slice B x.f6.length cb] 31) = W1 at *
  refine hpat.mono ?_
  rintro e W2 ⟨hb, hcase⟩
  have hB := below_step hb2 hb
  have hX2 := blk_below hX hb
  have y0 := (blk_cell hX2 0).trans rfl
  have y1 := (blk_cell hX2 1).trans rfl
  have y2 := (blk_cell hX2 2).trans rfl
  have y3 := (blk_cell hX2 3).trans rfl
  have y4 := (blk_cell hX2 4).trans rfl
  have y5 := (blk_cell hX2 5).trans rfl
  have y6 := (blk_cell hX2 6).trans rfl
  have y7 := (blk_cell hX2 7).trans rfl
  have y8 := (blk_cell hX2 8).trans rfl
  have y9 := (blk_cell hX2 9).trans rfl
  rcases hcase with ⟨hne, rfl⟩ | ⟨he, gp, rfl, _, hp⟩
  · have d : (pe != 0) = true := by simpa using hne
    have HE := Lib.hid (show res = (0, 0, pe) by rw [HRES.out, if_pos hne])
    clear hne
    go_wp2_with fail
    go_ret3
    exact ⟨hB, by rw [HE.out]; rfl⟩
  · subst he
    have HE := Lib.hid (show res = anchorOf cs (refsOf x) by rw [HRES.out]; simp)
    have hcall := HA.out gp W2 (HPOS.out rfl).1 hp (Kd.C_below HCX.out hb)
    rw [← HE.out] at hcall
    have HCALL := Lib.hid hcall
    clear hcall HA hp
    go_wp2_with fail
    refine HCALL.out.mono ?_
    rintro e W3 ⟨hb3, rfl⟩
    go_wp2_with fail
    go_ret3
    exact ⟨below_step hB hb3, rfl⟩
end Go.Proofs.Ytgnifglolbfamaa

/- The law's own words: comp, stage. -/
set_option linter.unusedVariables false
set_option linter.unusedSimpArgs false
namespace Go.Proofs.Ytgnifglolbfamaa
open Go.RowKit Go.Proofs.YtgnifglolbfamaaW.PrintWords

theorem vix_take (cs : List Cp) (s : List UInt8) (k : Nat) (hk : k < cs.length) (h : vix (cs.take k) s = none) (he : s = cs[k].f3.data.toList) : vix cs s = some (k : Int) := by
  have : ∀ (a : List Cp) (c : Cp) (b : List Cp), vix a s = none → s = c.f3.data.toList → vix (a ++ c :: b) s = some (a.length : Int) := by
    intro a
    induction a with
    | nil => intro c b _ he; simp [vix, he]
    | cons x a ih =>
      intro c b hn he
      simp only [vix] at hn
      split at hn
      · exact absurd hn (by simp)
      · rename_i hne
        simp only [List.cons_append, vix]
        rw [if_neg hne, ih c b (by simpa using hn) he]
        simp
  have h2 := this (cs.take k) cs[k] (cs.drop (k + 1)) h he
  rw [List.length_take, Nat.min_eq_left (by omega)] at h2
  rw [← h2]
  congr 1
  rw [← List.drop_eq_getElem_cons hk, List.take_append_drop]
theorem bytes_beq (a b : ByteArray) : (a.toList == b.toList) = true ↔ b.data.toList = a.data.toList := by
  rw [Lib.toList_data, Lib.toList_data]
  simp
  exact eq_comm

set_option maxHeartbeats 2000000 in
set_option maxRecDepth 100000 in
theorem comp_any (cs : List Cp) (A : Option Addr) (c : Nat) (q1 : ByteArray) (q2 : Int) (v3 v4 : Value) (q5 : Int) (q6 : ByteArray) (v7 : Value) (h3 : v3.oneCell' = true) (h4 : v4.oneCell' = true) (h7 : v7.oneCell' = true) (s : ByteArray) (w : World)
    (hC : kCp.C w A cs.length cs) :
    Calls Try.prog 13 #[.agg #[.slice A cs.length c, .string q1, .int .i64 q2, v3, v4, .int .i64 q5, .string q6, v7], .string s] w fun e w' => e = .returned (.int .i64 ((vix cs s.data.toList).getD (-1))) ∧ Below w.heap.size w w' := by
  obtain ⟨res, hres⟩ : ∃ res, res = (vix cs s.data.toList).getD (-1) := ⟨_, rfl⟩
  rw [← hres]
  have HRES := Lib.hid hres
  have HC := Lib.hid hC
  have hmx := hC.2.1
  clear hres hC
  go_enter Try.func13, Try.ntmps13
  go_wp2_with fail
  go_loopw [5] (fun t5 wr => ∃ k : Nat, k ≤ cs.length ∧ t5 = .int .i64 k ∧ Hid (wr = w.alloc (.cells #[.slice A cs.length c, .string q1, .int .i64 q2, v3, v4, .int .i64 q5, .string q6, v7] 27)) ∧ Hid (vix (cs.take k) s.data.toList = none)) (fun t5 _ => cs.length - (intOf t5).toNat)
  case atStart => exact ⟨0, by omega, rfl, Lib.hid rfl, Lib.hid rfl⟩
  case round =>
    obtain ⟨k, hk, rfl, hw, hO⟩ := hrel
    have hB : Below w.heap.size w wr := by rw [hw.out]; exact below_new _ _
    have hQ : wr.heap[w.heap.size]? = some (.cells #[.slice A cs.length c, .string q1, .int .i64 q2, v3, v4, .int .i64 q5, .string q6, v7] 27 (0, 0)) := by rw [hw.out]; exact blk_new _ _
    have q0 := (blk_cell hQ 0).trans rfl
    by_cases hlt : k < cs.length
    · obtain ⟨ad, rfl, c0, c1, c2, c3⟩ := atCpN HC.out k hlt hlt
      have i1 : (0 : Int) ≤ (k : Int) := by omega
      have i2 : (k : Int) < cs.length := by omega
      have c3 := pw_cell_below hB c3
      have HT := Lib.hid (show vix (cs.take (k + 1)) s.data.toList = if s.data.toList = cs[k].f3.data.toList then some (k : Int) else none by
        rw [List.take_succ_eq_append_getElem hlt, vix_snoc, hO.out, List.length_take, Nat.min_eq_left (by omega)]; rfl)
      have HV := Lib.hid (vix_take cs s.data.toList k hlt hO.out)
      generalize cs[k].f3 = y at *
      clear c0 c1 c2
      rcases Bool.eq_false_or_eq_true (y.toList == s.toList) with d | d
      · have HE := Lib.hid (show res = (k : Int) by rw [HRES.out, HV.out ((bytes_beq y s).1 d)]; rfl)
        go_wp2_with fail
        go_ret
        exact ⟨by rw [HE.out]; rfl, hB⟩
      · have HE := Lib.hid (show ¬ s.data.toList = y.data.toList from fun h => by rw [(bytes_beq y s).2 h] at d; exact absurd d (by simp))
        go_wp2_with fail
        go_roundw
        case rel => exact ⟨k + 1, by omega, by go_num, hw, Lib.hid (by rw [HT.out, if_neg HE.out])⟩
        case measure => simp [intOf]; omega
    · have hO2 := hO.out
      rw [List.take_of_length_le (by omega)] at hO2
      have HE := Lib.hid (show res = -1 by rw [HRES.out, hO2]; rfl)
      go_wp2_with fail
      go_ret
      exact ⟨by rw [HE.out]; rfl, hB⟩

set_option maxHeartbeats 2000000 in
set_option maxRecDepth 100000 in
theorem stage_any (cs : List Cp) (A : Option Addr) (c : Nat) (q1 : ByteArray) (q2 : Int) (v3 v4 : Value) (q5 : Int) (q6 : ByteArray) (v7 : Value) (h3 : v3.oneCell' = true) (h4 : v4.oneCell' = true) (h7 : v7.oneCell' = true) (n : Nat) (hn : n ≤ cs.length) (w : World)
    (hC : kCp.C w A cs.length cs) :
    Calls Try.prog 14 #[.agg #[.slice A cs.length c, .string q1, .int .i64 q2, v3, v4, .int .i64 q5, .string q6, v7], .int .i64 n] w fun e w' => e = .returned (.int .i64 (stg (cs.take n) : Nat)) ∧ Below w.heap.size w w' := by
  obtain ⟨res, hres⟩ : ∃ res, res = stg (cs.take n) := ⟨_, rfl⟩
  rw [← hres]
  have HRES := Lib.hid hres
  have HC := Lib.hid hC
  have hmx := hC.2.1
  clear hres hC
  go_enter Try.func14, Try.ntmps14
  go_wp2_with fail
  go_loopw [5, 6] (fun t5 t6 wr => ∃ k st : Nat, k ≤ n ∧ st ≤ k ∧ t6 = .int .i64 k ∧ t5 = .int .i64 st ∧ Hid (wr = w.alloc (.cells #[.slice A cs.length c, .string q1, .int .i64 q2, v3, v4, .int .i64 q5, .string q6, v7] 27)) ∧ Hid (st = stg (cs.take k))) (fun _ t6 _ => n - (intOf t6).toNat)
  case atStart => exact ⟨0, 0, by omega, by omega, rfl, rfl, Lib.hid rfl, Lib.hid rfl⟩
  case round =>
    obtain ⟨k, st, hk, hst, rfl, rfl, hw, hO⟩ := hrel
    have hB : Below w.heap.size w wr := by rw [hw.out]; exact below_new _ _
    have hQ : wr.heap[w.heap.size]? = some (.cells #[.slice A cs.length c, .string q1, .int .i64 q2, v3, v4, .int .i64 q5, .string q6, v7] 27 (0, 0)) := by rw [hw.out]; exact blk_new _ _
    have q0 := (blk_cell hQ 0).trans rfl
    by_cases hlt : k < n
    · obtain ⟨ad, rfl, c0, c1, c2, c3⟩ := atCpN HC.out k (by omega) (by omega)
      have i0 : (0 : Int) ≤ (k : Int) := by omega
      have i1 : (k : Int) < n := by omega
      have i2 : (k : Int) < cs.length := by omega
      have c0 := pw_cell_below hB c0
      have HT := Lib.hid (show stg (cs.take (k + 1)) = st + (if cs[k].f0 then 0 else 1) by
        rw [List.take_succ_eq_append_getElem (by omega), stg_append, hO.out]; simp [stg])
      generalize cs[k].f0 = y at *
      clear c1 c2 c3
      cases y with
      | true =>
        go_wp2_with fail
        go_roundw
        case rel => exact ⟨k + 1, st, by omega, by omega, by go_num, rfl, hw, Lib.hid (by rw [HT.out]; rfl)⟩
        case measure => simp [intOf]; omega
      | false =>
        go_wp2_with fail
        go_roundw
        case rel => exact ⟨k + 1, st + 1, by omega, by omega, by go_num, by go_num, hw, Lib.hid (by rw [HT.out]; rfl)⟩
        case measure => simp [intOf]; omega
    · obtain rfl : k = n := by omega
      have HE := Lib.hid (show res = st by rw [HRES.out, hO.out])
      go_wp2_with fail
      go_ret
      exact ⟨by rw [HE.out]; rfl, hB⟩
end Go.Proofs.Ytgnifglolbfamaa

/- The law's own words: leftOf. -/
set_option linter.unusedVariables false
set_option linter.unusedSimpArgs false
namespace Go.Proofs.Ytgnifglolbfamaa
open Go.RowKit Go.Proofs.YtgnifglolbfamaaW.PrintWords

/-- What leftOf answers of n nodes at a room. -/
def LeftR (n : Nat) (room r : Int) : Prop := (0 ≤ r → r = room - n) ∧ (r < 0 → room < n) ∧ -1 ≤ r
theorem exNL_take_succ (l : List Ex) (k : Nat) (h : k < l.length) : exNL (l.take (k + 1)) = exNL (l.take k) + exN l[k] := by
  rw [List.take_succ_eq_append_getElem h, exNL_append]
  simp [exNL]

set_option maxHeartbeats 2000000 in
set_option maxRecDepth 100000 in
theorem leftOf_any : ∀ (m : Nat) (x : Ex) (A : Option Addr) (c : Nat) (room : Int) (w : World), exN x ≤ m → 0 ≤ room → room ≤ 1000000 → kEx.C w A x.f6.length x.f6 →
    Calls Try.prog 37 #[exV x (.slice A x.f6.length c), .int .i64 room] w fun e w' => ∃ r, e = .returned (.int .i64 r) ∧ Hid (LeftR (exN x) room r) ∧ Below w.heap.size w w' := by
  intro m
  induction m with
  | zero => intro x A c room w h; rw [exN_eq] at h; omega
  | succ m ih =>
    intro x A c room w hm h0 h1 hC
    have hn := exN_eq x
    rw [hn] at hm
    have HN := Lib.hid hn
    have HC := Lib.hid hC
    have hmx := hC.2.1
    clear hn hC
    unfold exV
    go_enter Try.func37, Try.ntmps37
    go_wp2_with fail
    have hB0 := below_new w (.cells #[.int .i64 x.f0, .int .i64 x.f1, .int .i64 x.f2.f0, .int .i64 x.f2.f1, .string x.f2.f2, .bool x.f2.f3, .string x.f3, .int .i64 x.f4, .string x.f5, .slice A x.f6.length c] 31)
    have hX := blk_new w (.cells #[.int .i64 x.f0, .int .i64 x.f1, .int .i64 x.f2.f0, .int .i64 x.f2.f1, .string x.f2.f2, .bool x.f2.f3, .string x.f3, .int .i64 x.f4, .string x.f5, .slice A x.f6.length c] 31)
    generalize w.alloc (.cells #[.int .i64 x.f0, .int .i64 x.f1, .int .i64 x.f2.f0, .int .i64 x.f2.f1, .string x.f2.f2, .bool x.f2.f3, .string x.f3, .int .i64 x.f4, .string x.f5, .slice A x.f6.length c] 31) = W1 at *
    go_loopw [1, 5] (fun t1 t5 wr => ∃ (k : Nat) (rm : Int), k ≤ x.f6.length ∧ t5 = .int .i64 k ∧ t1 = .int .i64 rm ∧ -1 ≤ rm ∧ rm ≤ 1000000 ∧ Below W1.heap.size W1 wr ∧ Hid ((0 ≤ rm → rm = room - 1 - exNL (x.f6.take k)) ∧ (rm < 0 → room - 1 < exNL (x.f6.take k)))) (fun _ t5 _ => x.f6.length - (intOf t5).toNat)
    case atStart => exact ⟨0, room - 1, by omega, rfl, rfl, by omega, by omega, Below.refl _ _, Lib.hid (by simp [exNL])⟩
    case round =>
      obtain ⟨k, rm, hk, rfl, rfl, hr0, hr1, hB, hO⟩ := hrel
      have q9 := (blk_cell (blk_below hX hB) 9).trans rfl
      by_cases hlt : k < x.f6.length
      · have i1 : (0 : Int) ≤ (k : Int) := by omega
        have i2 : (k : Int) < x.f6.length := by omega
        by_cases hrm : 0 ≤ rm
        · have d1 : decide (rm ≥ 0) = true := by simpa using hrm
          have hat := atEx (Kd.C_below HC.out (below_step hB0 hB)) k i1 i2
          simp only [Int.toNat_natCast] at hat
          obtain ⟨ad, B9, b9, rfl, e0, e1, e2, e3, e4, e5, e6, e7, e8, e9, hl9, hi9⟩ := hat
          have hR := rdEx_get x.f6 k hlt
          have HS := Lib.hid (exNL_take_succ x.f6 k hlt)
          have hym := exN_get x.f6 k hlt
          rw [← hR] at HS hym
          clear hR
          generalize rdEx x.f6 k = y at *
          have hcall := ih y B9 b9 rm wr (by omega) hrm hr1 hi9
          have HCALL := Lib.hid hcall
          have HI := Lib.hid ih
          unfold exV at HCALL
          clear hcall ih hi9
          go_wp2_with fail
          refine HCALL.out.mono ?_
          rintro e W3 ⟨r', rfl, hL, hb3⟩
          obtain ⟨a1, a2, a3⟩ := hL.out
          obtain ⟨o1, o2⟩ := hO.out
          have h1 := o1 hrm
          have hbd : r' ≤ 1000000 := by
            rcases Int.lt_or_le r' 0 with h | h
            · omega
            · have := a1 h; omega
          have HN2 := Lib.hid (show (0 ≤ r' → r' = room - 1 - exNL (x.f6.take (k + 1))) ∧ (r' < 0 → room - 1 < exNL (x.f6.take (k + 1))) by
            rw [HS.out]
            exact ⟨fun h => by have := a1 h; omega, fun h => by have := a2 h; omega⟩)
          clear a1 a2 o1 o2 h1
          go_wp2_with fail
          go_roundw
          case rel => exact ⟨k + 1, r', by omega, by go_num, rfl, a3, hbd, below_step hB hb3, HN2⟩
          case measure => simp [intOf]; omega
        · have d1 : decide (rm ≥ 0) = false := by simpa using hrm
          have ht := exNL_take x.f6 k
          have h2 := hO.out.2 (by omega)
          go_wp2_with fail
          go_ret
          exact ⟨rm, rfl, Lib.hid ⟨fun h => by omega, fun _ => by rw [HN.out]; omega, hr0⟩, below_step hB0 hB⟩
      · have hO2 := hO.out
        rw [List.take_of_length_le (by omega)] at hO2
        go_wp2_with fail
        go_ret
        exact ⟨rm, rfl, Lib.hid ⟨fun h => by rw [HN.out]; have := hO2.1 h; omega, fun h => by rw [HN.out]; have := hO2.2 h; omega, hr0⟩, below_step hB0 hB⟩
end Go.Proofs.Ytgnifglolbfamaa

/- The law's own words: heavy. -/
set_option linter.unusedVariables false
set_option linter.unusedSimpArgs false
namespace Go.Proofs.Ytgnifglolbfamaa
open Go.RowKit Go.Proofs.YtgnifglolbfamaaW.PrintWords

set_option maxHeartbeats 2000000 in
set_option maxRecDepth 100000 in
theorem heavy_any (l : List Ex) (A : Option Addr) (c : Nat) (room : Int) (w : World) (h0 : 0 ≤ room) (h1 : room ≤ 1000000) (hC : kEx.C w A l.length l) :
    Calls Try.prog 10 #[.slice A l.length c, .int .i64 room] w fun e w' => e = .returned (.bool (decide (room < exNL l))) ∧ Below w.heap.size w w' := by
  obtain ⟨res, hres⟩ : ∃ res, res = decide (room < exNL l) := ⟨_, rfl⟩
  rw [← hres]
  have HRES := Lib.hid hres
  have HC := Lib.hid hC
  have hmx := hC.2.1
  clear hC hres
  go_enter Try.func10, Try.ntmps10
  go_wp2_with fail
  go_loopw [1, 5] (fun t1 t5 wr => ∃ (k : Nat) (rm : Int), k ≤ l.length ∧ t5 = .int .i64 k ∧ t1 = .int .i64 rm ∧ -1 ≤ rm ∧ rm ≤ 1000000 ∧ Below w.heap.size w wr ∧ Hid ((0 ≤ rm → rm = room - exNL (l.take k)) ∧ (rm < 0 → room < exNL (l.take k)))) (fun _ t5 _ => l.length - (intOf t5).toNat)
  case atStart => exact ⟨0, room, by omega, rfl, rfl, by omega, by omega, Below.refl _ _, Lib.hid (by simp [exNL]; try omega)⟩
  case round =>
    obtain ⟨k, rm, hk, rfl, rfl, hr0, hr1, hB, hO⟩ := hrel
    by_cases hlt : k < l.length
    · have i1 : (0 : Int) ≤ (k : Int) := by omega
      have i2 : (k : Int) < l.length := by omega
      by_cases hrm : 0 ≤ rm
      · have d1 : decide (rm ≥ 0) = true := by simpa using hrm
        have hat := atEx (Kd.C_below HC.out hB) k i1 i2
        simp only [Int.toNat_natCast] at hat
        obtain ⟨ad, B9, b9, rfl, e0, e1, e2, e3, e4, e5, e6, e7, e8, e9, hl9, hi9⟩ := hat
        have hR := rdEx_get l k hlt
        have HS := Lib.hid (exNL_take_succ l k hlt)
        rw [← hR] at HS
        clear hR
        generalize rdEx l k = y at *
        have hcall := leftOf_any (exN y) y B9 b9 rm wr (Nat.le_refl _) hrm hr1 hi9
        have HCALL := Lib.hid hcall
        unfold exV at HCALL
        clear hcall hi9
        go_wp2_with fail
        refine HCALL.out.mono ?_
        rintro e W3 ⟨r', rfl, hL, hb3⟩
        obtain ⟨a1, a2, a3⟩ := hL.out
        obtain ⟨o1, o2⟩ := hO.out
        have h1 := o1 hrm
        have hbd : r' ≤ 1000000 := by
          rcases Int.lt_or_le r' 0 with h | h
          · omega
          · have := a1 h; omega
        have HN2 := Lib.hid (show (0 ≤ r' → r' = room - exNL (l.take (k + 1))) ∧ (r' < 0 → room < exNL (l.take (k + 1))) by
          rw [HS.out]
          exact ⟨fun h => by have := a1 h; omega, fun h => by have := a2 h; omega⟩)
        clear a1 a2 o1 o2 h1
        go_wp2_with fail
        go_roundw
        case rel => exact ⟨k + 1, r', by omega, by go_num, rfl, a3, hbd, below_step hB hb3, HN2⟩
        case measure => simp [intOf]; omega
      · have d1 : decide (rm ≥ 0) = false := by simpa using hrm
        have d2 : decide (rm < 0) = true := by simp; omega
        have ht := exNL_take l k
        have h2 := hO.out.2 (by omega)
        have HE := Lib.hid (show res = true by rw [HRES.out]; simp; omega)
        go_wp2_with fail
        go_ret
        exact ⟨by rw [HE.out]; rfl, hB⟩
    · have hO2 := hO.out
      rw [List.take_of_length_le (by omega)] at hO2
      rcases Int.lt_or_le rm 0 with h | h
      · have d2 : decide (rm < 0) = true := by simpa using h
        have h2 := hO2.2 h
        have HE := Lib.hid (show res = true by rw [HRES.out]; simp; omega)
        go_wp2_with fail
        go_ret
        exact ⟨by rw [HE.out]; rfl, hB⟩
      · have d2 : decide (rm < 0) = false := by simp; omega
        have h2 := hO2.1 h
        have HE := Lib.hid (show res = false by rw [HRES.out]; simp; omega)
        clear h2 hO2 hO
        go_wp2_with fail
        go_ret
        exact ⟨by rw [HE.out]; rfl, hB⟩
end Go.Proofs.Ytgnifglolbfamaa
