/- The walk of pattern.anchor. -/
import Derived.Test.YtgnifglolbfamaaPlH
import Derived.StillTailTactics
set_option linter.unusedVariables false
set_option linter.unusedSimpArgs false
namespace Go.Proofs.Ytgnifglolbfamaa
open Go.RowKit Go.Proofs.YtgnifglolbfamaaW.PrintWords

theorem stgs_len (cs : List Cp) : (stgs cs).length = cs.length := by simp [stgs]
theorem PatAt.parts {w : World} {gp : Nat} {A : Option Addr} {c : Nat} {cs : List Cp} (h : PatAt w gp A c cs) :
    ∃ gm Av cv, w.heap[gp]? = some (.cells #[.slice A cs.length c, .map (some gm), .slice Av cs.length cv, .int .i64 (stg cs)] 124 (0, 0)) ∧ KeyMap w gm cs.length (vix cs) ∧
      ∀ j, j < cs.length → ∃ ad, Av = some ad ∧ w.cell? (ad.add j) = some (.int .i64 (stg (cs.take j) : Int)) := by
  obtain ⟨h1, h2, h3, gm, v2, h4, h5, base, h6⟩ := h
  obtain ⟨Av, cv, rfl, hc, hC⟩ := Kd.R_reads h6
  rw [stgs_len] at h4 hC
  refine ⟨gm, Av, cv, h4, h5, fun j hj => ?_⟩
  have hr := Kd.reads_of_C (d := (0 : Int)) hC
  obtain ⟨ad, hA, hcell⟩ := hr.at_ (j : Int) (by omega) (by omega)
  refine ⟨ad, hA, ?_⟩
  rw [Int.toNat_natCast] at hcell
  rw [hcell]
  have : rdOf (0 : Int) (stgs cs) (j : Int) = (stg (cs.take j) : Int) := by
    simp [rdOf, stgs, List.getD_eq_getElem?_getD, hj]
  rw [this]

/-- The moment at which a reference is bound. -/
def refMom (cs : List Cp) (r : Rf) : Int × Bool := ((stg (cs.take (cix cs r).toNat) : Int), r.f1 == 5 || r.f1 == 6)
def lastMom (cs : List Cp) (rs : List Rf) : Int × Bool := rs.foldl (fun m r => laterM m (refMom cs r)) (0, false)
def anchorOf (cs : List Cp) (rs : List Rf) : Int × Int × Int :=
  match rs.find? (fun r => usedErr cs r != 0) with
  | some r => (0, 0, usedErr cs r)
  | none =>
    if (mixOf cs rs).2.2 ≠ 0 then (0, 0, (mixOf cs rs).2.2)
    else if (mixOf cs rs).1 ≥ 0 then (2, (stg (cs.take (mixOf cs rs).1.toNat) : Int), 0)
    else if (mixOf cs rs).2.1 ≥ 0 then (4, (mixOf cs rs).2.1, 0)
    else if (lastMom cs rs).2 = false then (1, (lastMom cs rs).1, 0)
    else if (lastMom cs rs).1 = (stg cs : Int) - 1 then (5, (lastMom cs rs).1, 0)
    else (3, (lastMom cs rs).1, 0)

theorem usedErr_zero {cs : List Cp} {r : Rf} (h : usedErr cs r = 0) : (vix cs r.f0.data.toList).isSome = true := by
  unfold usedErr at h
  cases hv : vix cs r.f0.data.toList with
  | none => rw [hv] at h; simp at h
  | some i => rfl
theorem find_take {α : Type} (p : α → Bool) (L : List α) (k : Nat) (hk : k < L.length) (h : (L.take k).find? p = none) (hp : p L[k] = true) : L.find? p = some L[k] := by
  conv => lhs; rw [← List.take_append_drop k L]
  rw [List.find?_append, h, List.drop_eq_getElem_cons hk, List.find?_cons, hp]
  rfl
theorem find_take_succ {α : Type} (p : α → Bool) (L : List α) (k : Nat) (hk : k < L.length) (h : (L.take k).find? p = none) (hp : p L[k] = false) : (L.take (k + 1)).find? p = none := by
  rw [List.take_succ_eq_append_getElem hk, List.find?_append, h]
  simp [hp]

theorem cix_bound {cs : List Cp} {r : Rf} (h : (vix cs r.f0.data.toList).isSome = true) : 0 ≤ cix cs r ∧ cix cs r < cs.length := by
  obtain ⟨i, hi⟩ := Option.isSome_iff_exists.1 h
  have := vix_bound _ _ _ hi
  simpa [cix, hi] using this
theorem mix1_bound (cs : List Cp) : ∀ (rs : List Rf) (p q : Int × Int), RefsIn cs rs → rs.foldlM (mstep cs) p = some q → p.1 < cs.length → p.2 < cs.length → q.1 < cs.length ∧ q.2 < cs.length
  | [], p, q, _, h, h1, h2 => by
    have h : some p = some q := h
    injection h with h
    subst h
    exact ⟨h1, h2⟩
  | r :: rs, p, q, hin, h, h1, h2 => by
    have hb := cix_bound (hin r (by simp)).2
    rw [List.foldlM_cons] at h
    cases hs : mstep cs p r with
    | none => rw [hs] at h; exact absurd h (by simp)
    | some t =>
      rw [hs] at h
      have ht : t.1 < cs.length ∧ t.2 < cs.length := by
        unfold mstep mstepB at hs
        split at hs
        · exact absurd hs (by simp)
        · split at hs
          · exact absurd hs (by simp)
          · injection hs with hs
            subst hs
            refine ⟨?_, ?_⟩ <;> dsimp only <;> split <;> first | exact hb.2 | exact h1 | exact h2
      exact mix1_bound cs rs t q (fun r hr => hin r (by simp [hr])) h ht.1 ht.2
theorem mixOf_bound (cs : List Cp) (rs : List Rf) (hin : RefsIn cs rs) (h0 : 0 < cs.length) : (mixOf cs rs).1 < cs.length ∧ (mixOf cs rs).2.1 < cs.length := by
  unfold mixOf
  cases h : mix1 cs rs with
  | none => simp; omega
  | some p =>
    have := mix1_bound cs rs (-1, -1) p hin h (by show (-1 : Int) < _; omega) (by show (-1 : Int) < _; omega)
    dsimp only
    split
    · simp; omega
    · exact this

set_option maxHeartbeats 4000000 in
set_option maxRecDepth 100000 in
theorem anchor_any (cs : List Cp) (gp : Nat) (A : Option Addr) (c : Nat) (x : Ex) (B : Option Addr) (cb : Nat) (w : World) (h0 : 0 < cs.length) (hp : PatAt w gp A c cs) (hnm : ∀ r ∈ refsOf x, r.f0.size ≤ maxLen)
    (hN : exN x ≤ 100000000000) (hc : x.f6.length ≤ cb) (hC : kEx.C w B x.f6.length x.f6) :
    Calls Try.prog 39 #[.pointer (some ⟨gp, 0, none⟩), exV x (.slice B x.f6.length cb)] w (MixPost (anchorOf cs (refsOf x)) w) := by
  have hrf := refs_any x B cb (w.alloc (.cells #[.int .i64 x.f0, .int .i64 x.f1, .int .i64 x.f2.f0, .int .i64 x.f2.f1, .string x.f2.f2, .bool x.f2.f3, .string x.f3, .int .i64 x.f4, .string x.f5, .slice B x.f6.length cb] 31)) hN hc (Kd.C_below hC (below_new _ _))
  have HP := Lib.hid hp
  have HNM := Lib.hid hnm
  generalize refsOf x = rs at *
  obtain ⟨res, hres⟩ : ∃ res, res = anchorOf cs rs := ⟨_, rfl⟩
  rw [← hres]
  unfold anchorOf at hres
  have HRES := Lib.hid hres
  clear hp hnm hN hc hC hres
  unfold exV at hrf ⊢
  go_enter Try.func39, Try.ntmps39
  go_wp2_with fail
  refine hrf.mono ?_
  rintro e W1 ⟨hb1, v1, rfl, hr1⟩
  obtain ⟨B1, c1, rfl, hc1, hC1⟩ := Kd.R_reads hr1
  have hB1 := below_step (below_new w _) hb1
  have HR := Lib.hid hC1
  have hmx := hC1.2.1
  have HP1 := Lib.hid (HP.out.below hB1)
  clear hr1 hC1 hb1 hrf HP
  go_wp2_with fail
  go_loopw [21] (fun t21 wr => ∃ k : Nat, k ≤ rs.length ∧ t21 = .int .i64 k ∧ Below W1.heap.size W1 wr ∧ Hid ((rs.take k).find? (fun r => usedErr cs r != 0) = none)) (fun t21 _ => rs.length - (intOf t21).toNat)
  case atStart => exact ⟨0, by omega, rfl, Below.refl _ _, Lib.hid rfl⟩
  case round =>
    obtain ⟨k, hk, rfl, hB, hO⟩ := hrel
    by_cases hlt : k < rs.length
    · obtain ⟨ad, rfl, e0, e1, e2, e3⟩ := atRfN HR.out k hlt hlt
      have i1 : (0 : Int) ≤ (k : Int) := by omega
      have i2 : (k : Int) < rs.length := by omega
      have e0 := pw_cell_below hB e0
      have e1 := pw_cell_below hB e1
      have e2 := pw_cell_below hB e2
      have e3 := pw_cell_below hB e3
      have hnmk := HNM.out _ (List.getElem_mem hlt)
      have HF1 := Lib.hid (find_take (fun r => usedErr cs r != 0) rs k hlt hO.out)
      have HF2 := Lib.hid (find_take_succ (fun r => usedErr cs r != 0) rs k hlt hO.out)
      generalize rs[k] = r at *
      have hu := used_any cs gp A c r _ ((HP1.out.below hB).below (below_new wr (.cells #[.string r.f0, .int .i64 r.f1, .string r.f2, .int .i64 r.f3] 42))) hnmk
      obtain ⟨ue, hue⟩ : ∃ ue, ue = usedErr cs r := ⟨_, rfl⟩
      rw [← hue] at hu
      have HUE := Lib.hid hue
      have HU := Lib.hid hu
      clear hu hue
      go_wp2_with fail
      refine HU.out.mono ?_
      rintro e W3 ⟨rfl, hb3⟩
      have hB3 := below_step hB (below_step (below_new wr _) hb3)
      rcases Bool.eq_false_or_eq_true (ue != 0) with d | d
      · go_wp2_with fail
        go_ret3
        refine ⟨below_step hB1 hB3, ?_⟩
        rw [HRES.out, HF1.out (by simpa [HUE.out] using d)]
        show _ = Ending.returned (.tuple #[.int .i64 0, .int .i64 0, .int .i64 (usedErr cs r)])
        rw [← HUE.out]
        rfl
      · go_wp2_with fail
        go_roundw
        case rel => exact ⟨k + 1, by omega, by go_num, hB3, Lib.hid (HF2.out (by simpa [HUE.out] using d))⟩
        case measure => simp [intOf]; omega
    · have hO2 := hO.out
      rw [List.take_of_length_le (by omega)] at hO2
      have hin : RefsIn cs rs := fun r hr => ⟨HNM.out r hr, usedErr_zero (by have := List.find?_eq_none.1 hO2 r hr; simpa using this)⟩
      have hm := mixed_any cs gp A c rs B1 c1 wr (HP1.out.below hB) hin (Kd.C_below HR.out hB)
      have hbd := mixOf_bound cs rs hin h0
      have hR0 := HRES.out
      rw [hO2] at hR0
      dsimp only at hR0
      generalize mixOf cs rs = m at *
      obtain ⟨m1, m2, m3⟩ := m
      dsimp only at hR0 hbd
      have HRS := Lib.hid hR0
      have HM := Lib.hid hm
      have HIN := Lib.hid hin
      obtain ⟨hbd1, hbd2⟩ := hbd
      have hBw := below_step hB1 hB
      have HPw := Lib.hid (HP1.out.below hB)
      clear hR0 hm hin hO2 hO HP1
      unfold MixPost at HM
      go_wp2_with fail
      refine HM.out.mono ?_
      rintro e W3 ⟨hb3, rfl⟩
      have hB3 := below_step hBw hb3
      rcases Bool.eq_false_or_eq_true (m3 != 0) with d1 | d1
      · have HE := Lib.hid (show res = (0, 0, m3) by simp at d1; rw [HRS.out, if_pos d1])
        go_wp2_with fail
        go_ret3
        exact ⟨hB3, by rw [HE.out]; rfl⟩
      · have hm3 : m3 = 0 := by simpa using d1
        rcases Bool.eq_false_or_eq_true (decide (m1 ≥ 0)) with d2 | d2
        · have HE := Lib.hid (show res = (2, (stg (cs.take m1.toNat) : Int), 0) by simp at d2; rw [HRS.out, if_neg (by simp [hm3]), if_pos d2])
          have hm1 : 0 ≤ m1 := by simpa using d2
          obtain ⟨gm, Av, cv, h4, h5, h6⟩ := PatAt.parts (HPw.out.below hb3)
          obtain ⟨j, rfl⟩ : ∃ j : Nat, m1 = j := ⟨m1.toNat, by omega⟩
          obtain ⟨ad, rfl, c0⟩ := h6 j (by omega)
          have i1 : (0 : Int) ≤ (j : Int) := by omega
          have p2 := (blk_cell h4 2).trans rfl
          rw [Int.toNat_natCast] at HE
          clear h4 h5 h6
          go_wp2_with fail
          go_quiet (fail)
          go_wp2_with fail
          go_ret3
          exact ⟨pw_below_drewN hB3 _, by rw [HE.out]; rfl⟩
        · rcases Bool.eq_false_or_eq_true (decide (m2 ≥ 0)) with d3 | d3
          · have HE := Lib.hid (show res = (4, m2, 0) by simp at d2 d3; rw [HRS.out, if_neg (by simp [hm3]), if_neg (by omega), if_pos d3])
            go_wp2_with fail
            go_ret3
            exact ⟨hB3, by rw [HE.out]; rfl⟩
          · have HE := Lib.hid (show res = if (lastMom cs rs).2 = false then (1, (lastMom cs rs).1, 0) else if (lastMom cs rs).1 = (stg cs : Int) - 1 then (5, (lastMom cs rs).1, 0) else (3, (lastMom cs rs).1, 0) by
              simp at d2 d3; rw [HRS.out, if_neg (by simp [hm3]), if_neg (by omega), if_neg (by omega)])
            have HP3 := Lib.hid (HPw.out.below hb3)
            have HR3 := Lib.hid (Kd.C_below (Kd.C_below HR.out hB) hb3)
            clear HRS HM HPw HR hb3 hB
            go_wp2_with fail
            have hZ := blk_new W3 (.cells #[.int .i64 0, .bool false] 129)
            have hbZ := below_new W3 (.cells #[.int .i64 0, .bool false] 129)
            go_loopw [59] (fun t59 wr => ∃ k : Nat, k ≤ rs.length ∧ t59 = .int .i64 k ∧ Below W3.heap.size W3 wr ∧ ∃ mo : Int × Bool, Hid (wr.heap[W3.heap.size]? = some (.cells #[.int .i64 mo.1, .bool mo.2] 129 (0, 0))) ∧ Hid (mo = lastMom cs (rs.take k))) (fun t59 _ => rs.length - (intOf t59).toNat)
            case atStart => exact ⟨0, by omega, rfl, hbZ, (0, false), Lib.hid hZ, Lib.hid rfl⟩
            case round =>
              clear hZ hbZ
              obtain ⟨k, hk, rfl, hB, mo, hZ, hmo⟩ := hrel
              by_cases hlt : k < rs.length
              · obtain ⟨ad, rfl, e0, e1, e2, e3⟩ := atRfN HR3.out k hlt hlt
                have i1 : (0 : Int) ≤ (k : Int) := by omega
                have i2 : (k : Int) < rs.length := by omega
                have e0 := pw_cell_below hB e0
                have e1 := pw_cell_below hB e1
                have e2 := pw_cell_below hB e2
                have e3 := pw_cell_below hB e3
                obtain ⟨hnm, hinr⟩ := HIN.out _ (List.getElem_mem hlt)
                have HT := Lib.hid (show lastMom cs (rs.take (k + 1)) = laterM mo (refMom cs rs[k]) by
                  rw [List.take_succ_eq_append_getElem hlt, hmo.out]; unfold lastMom; rw [List.foldl_append]; rfl)
                generalize rs[k] = r at *
                obtain ⟨gm, Av, cv, h4, h5, h6⟩ := PatAt.parts ((HP3.out.below hB).below (below_new wr (.cells #[.string r.f0, .int .i64 r.f1, .string r.f2, .int .i64 r.f3] 42)))
                have hZ1 := blk_alloc hZ.out (.cells #[.string r.f0, .int .i64 r.f1, .string r.f2, .int .i64 r.f3] 42)
                have hX1 := blk_new wr (.cells #[.string r.f0, .int .i64 r.f1, .string r.f2, .int .i64 r.f3] 42)
                have hB4 := below_step hB (below_new wr (.cells #[.string r.f0, .int .i64 r.f1, .string r.f2, .int .i64 r.f3] 42))
                have hzl := blk_lt hZ.out
                obtain ⟨i, hi⟩ := Option.isSome_iff_exists.1 hinr
                obtain ⟨hi0, hi1⟩ := vix_bound _ _ _ hi
                obtain ⟨j, rfl⟩ : ∃ j : Nat, i = j := ⟨i.toNat, by omega⟩
                have hj : j < cs.length := by omega
                obtain ⟨ad2, rfl, c0⟩ := h6 j hj
                have HRM := Lib.hid (show refMom cs r = ((stg (cs.take j) : Int), r.f1 == 5 || r.f1 == 6) by simp [refMom, cix, hi])
                go_wp2_with fail
                generalize wr.alloc (.cells #[.string r.f0, .int .i64 r.f1, .string r.f2, .int .i64 r.f3] 42) = W2 at *
                have hlk := fun nq => (h5.below (pw_below_drewN (Below.refl _ _) nq)).at_ r.f0 hnm
                have hlk1 := (h5.below (below_drew (Below.refl _ _))).at_ r.f0 hnm
                simp only [hi, Option.getD_some] at hlk hlk1
                have p1 := (blk_cell h4 1).trans rfl
                have p2 := (blk_cell h4 2).trans rfl
                have z0 := (blk_cell hZ1 0).trans rfl
                have z1 := (blk_cell hZ1 1).trans rfl
                have x0 := (blk_cell hX1 0).trans rfl
                have x1 := (blk_cell hX1 1).trans rfl
                have hj1 : (0 : Int) ≤ (j : Int) := by omega
                have hj2 : (j : Int) < cs.length := by omega
                clear hi hi0 hi1 hinr h5 h6 e0 e1 e2 e3
                have hB5 := below_drew hB4
                have hZ5 := blk_drew hZ1
                have fin : ∀ (tb : Bool), (r.f1 == 5 || r.f1 == 6) = tb → Hid (refMom cs r = ((stg (cs.take j) : Int), tb)) := fun tb h => Lib.hid (by rw [HRM.out, h])
                have hcase : (∃ u : Unit, (r.f1 == 5) = true ∧ Hid (refMom cs r = ((stg (cs.take j) : Int), true))) ∨ ((r.f1 == 5) = false ∧ (r.f1 == 6) = true ∧ Hid (refMom cs r = ((stg (cs.take j) : Int), true))) ∨ ((r.f1 == 5) = false ∧ (r.f1 == 6) = false ∧ Hid (refMom cs r = ((stg (cs.take j) : Int), false))) := by
                  rcases Bool.eq_false_or_eq_true (r.f1 == 5) with d5 | d5
                  · exact Or.inl ⟨(), d5, fin true (by rw [d5]; rfl)⟩
                  · rcases Bool.eq_false_or_eq_true (r.f1 == 6) with d6 | d6
                    · exact Or.inr (Or.inl ⟨d5, d6, fin true (by rw [d5, d6]; rfl)⟩)
                    · exact Or.inr (Or.inr ⟨d5, d6, fin false (by rw [d5, d6]; rfl)⟩)
                clear fin HRM
                rcases hcase with ⟨_, d5, HRM⟩ | ⟨d5, d6, HRM⟩ | ⟨d5, d6, HRM⟩
                all_goals
                  go_still_tail 23, (by kernel_rfl)
                  change wpList _ _ _ _ _ W2.drew
                  have p1 := (blk_cell (blk_drew h4) 1).trans rfl
                  have p2 := (blk_cell (blk_drew h4) 2).trans rfl
                  have z0 := (blk_cell hZ5 0).trans rfl
                  have z1 := (blk_cell hZ5 1).trans rfl
                  have x0 := (blk_cell (blk_drew hX1) 0).trans rfl
                  have x1 := (blk_cell (blk_drew hX1) 1).trans rfl
                  have c0 := pw_cell_below (below_drew (Below.refl _ _)) c0
                  clear hlk
                  generalize W2.drew = W4 at *
                  go_wp2_with fail
                iterate 2
                  · refine (later_any mo (((stg (cs.take j) : Nat) : Int), true) _).mono ?_
                    rintro e W5 ⟨rfl, hb5⟩
                    have hZ6 := blk_below hZ5 hb5
                    have hf0 := blk_frozen hZ6 0
                    have hf1 := blk_frozen hZ6 1
                    have z0 := (blk_cell hZ6 0).trans rfl
                    have z1 := (blk_cell hZ6 1).trans rfl
                    have hB6 := below_step hB5 hb5
                    go_wp2_with fail
                    go_roundw
                    case rel => exact ⟨k + 1, by omega, by go_num, (hB6.setCell (p := ⟨W3.heap.size, 0, none⟩) (Nat.le_refl _) _).setCell (p := ⟨W3.heap.size, 1, none⟩) (Nat.le_refl _) _, laterM mo (((stg (cs.take j) : Nat) : Int), true), Lib.hid (blk_set (blk_set hZ6 0 _) 1 _), Lib.hid (by rw [HT.out, HRM.out])⟩
                    case measure => simp [intOf]; omega
                · refine (later_any mo (((stg (cs.take j) : Nat) : Int), false) _).mono ?_
                  rintro e W5 ⟨rfl, hb5⟩
                  have hZ6 := blk_below hZ5 hb5
                  have hf0 := blk_frozen hZ6 0
                  have hf1 := blk_frozen hZ6 1
                  have z0 := (blk_cell hZ6 0).trans rfl
                  have z1 := (blk_cell hZ6 1).trans rfl
                  have hB6 := below_step hB5 hb5
                  go_wp2_with fail
                  go_roundw
                  case rel => exact ⟨k + 1, by omega, by go_num, (hB6.setCell (p := ⟨W3.heap.size, 0, none⟩) (Nat.le_refl _) _).setCell (p := ⟨W3.heap.size, 1, none⟩) (Nat.le_refl _) _, laterM mo (((stg (cs.take j) : Nat) : Int), false), Lib.hid (blk_set (blk_set hZ6 0 _) 1 _), Lib.hid (by rw [HT.out, HRM.out])⟩
                  case measure => simp [intOf]; omega
              · have hm2 := hmo.out
                rw [List.take_of_length_le (by omega)] at hm2
                have HE2 := Lib.hid (show res = if mo.2 = false then (1, mo.1, 0) else if mo.1 = (stg cs : Int) - 1 then (5, mo.1, 0) else (3, mo.1, 0) by rw [HE.out, hm2])
                have hBr := below_step hB3 hB
                have hP5 := HP3.out.below hB
                have hsl := stg_len cs
                have hcl := hP5.reads.2.1
                obtain ⟨gm, Av, cv, h4, h5, h6⟩ := PatAt.parts hP5
                clear h5 h6 hP5 hm2 HE
                have p3 := (blk_cell h4 3).trans rfl
                have z0 := (blk_cell hZ.out 0).trans rfl
                have z1 := (blk_cell hZ.out 1).trans rfl
                obtain ⟨mo1, mo2⟩ := mo
                cases mo2 with
                | false =>
                  go_wp2_with fail
                  go_quiet (fail)
                  go_wp2_with fail
                  go_ret3
                  exact ⟨pw_below_drewN hBr _, by rw [HE2.out]; rfl⟩
                | true =>
                  rcases Bool.eq_false_or_eq_true (mo1 == (stg cs : Int) - 1) with d7 | d7
                  · have HE := Lib.hid (show res = (5, mo1, 0) by rw [HE2.out]; simp at d7; simp [d7])
                    go_wp2_with fail
                    go_quiet (fail)
                    go_wp2_with fail
                    go_quiet (fail)
                    go_wp2_with fail
                    go_ret3
                    exact ⟨pw_below_drewN (pw_below_drewN hBr _) _, by rw [HE.out]; rfl⟩
                  · have HE := Lib.hid (show res = (3, mo1, 0) by rw [HE2.out]; simp at d7; simp [d7])
                    go_wp2_with fail
                    go_quiet (fail)
                    go_wp2_with fail
                    go_quiet (fail)
                    go_wp2_with fail
                    go_ret3
                    exact ⟨pw_below_drewN (pw_below_drewN hBr _) _, by rw [HE.out]; rfl⟩
end Go.Proofs.Ytgnifglolbfamaa
