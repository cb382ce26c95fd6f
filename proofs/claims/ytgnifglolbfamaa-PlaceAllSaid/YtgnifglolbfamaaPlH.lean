/- The walk of pattern.mixed. -/
import Derived.Test.YtgnifglolbfamaaPlG
set_option linter.unusedVariables false
set_option linter.unusedSimpArgs false
namespace Go.Proofs.Ytgnifglolbfamaa
open Go.RowKit Go.Proofs.YtgnifglolbfamaaW.PrintWords

def cix (cs : List Cp) (r : Rf) : Int := (vix cs r.f0.data.toList).getD 0
/-- One reference of the first pass: the components that are iterated and negated. -/
def mstepB (b nb : Bool) (i : Int) (p : Int × Int) : Option (Int × Int) :=
  if (b && (decide (p.1 ≥ 0) && (p.1 != i))) = true then none
  else if (nb && (decide (p.2 ≥ 0) && (p.2 != i))) = true then none
  else some (if b then i else p.1, if nb then i else p.2)
def mstep (cs : List Cp) (p : Int × Int) (r : Rf) : Option (Int × Int) := mstepB (iterAt r.f1) (negAt cs (cix cs r).toNat) (cix cs r) p
def mix1 (cs : List Cp) (rs : List Rf) : Option (Int × Int) := rs.foldlM (mstep cs) (-1, -1)
/-- A reference of the second pass that may not stand with the others. -/
def badB (b nb : Bool) (i : Int) (p : Int × Int) (a : Int) : Bool :=
  !b && ((decide (p.1 ≥ 0) && (nb || decide (i > p.1) || (i == p.1 && a != 4))) || (decide (p.1 < 0) && decide (p.2 ≥ 0) && decide (i > p.2)))
def mbad (cs : List Cp) (p : Int × Int) (r : Rf) : Bool := badB (iterAt r.f1) (negAt cs (cix cs r).toNat) (cix cs r) p r.f1
def mixOf (cs : List Cp) (rs : List Rf) : Int × Int × Int :=
  match mix1 cs rs with
  | none => (0, 0, 83)
  | some p => if rs.any (mbad cs p) then (0, 0, 83) else (p.1, p.2, 0)

theorem mix1_snoc (cs : List Cp) (a : List Rf) (r : Rf) : mix1 cs (a ++ [r]) = (mix1 cs a).bind fun p => mstep cs p r := by
  unfold mix1
  rw [List.foldlM_append]
  cases List.foldlM (mstep cs) (-1, -1) a with
  | none => rfl
  | some p => cases h : mstep cs p r <;> simp [List.foldlM, Option.bind, h]
theorem mix1_none (cs : List Cp) (rs : List Rf) (k : Nat) (h : mix1 cs (rs.take k) = none) : mix1 cs rs = none := by
  conv => lhs; rw [← List.take_append_drop k rs]
  unfold mix1 at h ⊢
  rw [List.foldlM_append, h]
  rfl

/-- What mixed is asked of: references whose names stand in the pattern. -/
def RefsIn (cs : List Cp) (rs : List Rf) : Prop := ∀ r ∈ rs, r.f0.size ≤ maxLen ∧ (vix cs r.f0.data.toList).isSome = true

def MixPost (m : Int × Int × Int) (w : World) (e : Ending) (w' : World) : Prop := Below w.heap.size w w' ∧ e = .returned (.tuple #[.int .i64 m.1, .int .i64 m.2.1, .int .i64 m.2.2])

set_option maxHeartbeats 4000000 in
set_option maxRecDepth 100000 in
theorem mixed_any (cs : List Cp) (gp : Nat) (A : Option Addr) (c : Nat) (rs : List Rf) (B : Option Addr) (cb : Nat) (w : World) (hp : PatAt w gp A c cs) (hr : RefsIn cs rs) (hR : kRf.C w B rs.length rs) :
    Calls Try.prog 58 #[.pointer (some ⟨gp, 0, none⟩), .slice B rs.length cb] w (MixPost (mixOf cs rs) w) := by
  have hmx := hR.2.1
  have HP := Lib.hid hp
  have HI := Lib.hid hr
  have HR := Lib.hid hR
  obtain ⟨res, hres⟩ : ∃ res, res = mixOf cs rs := ⟨_, rfl⟩
  rw [← hres]
  unfold mixOf at hres
  have HRES := Lib.hid hres
  clear hp hr hR hres
  go_enter Try.func58, Try.ntmps58
  go_wp2_with fail
  go_loopw [4, 5, 15] (fun t4 t5 t15 wr => ∃ (k : Nat) (it ng : Int), k ≤ rs.length ∧ t15 = .int .i64 k ∧ t4 = .int .i64 it ∧ t5 = .int .i64 ng ∧ Below w.heap.size w wr ∧ Hid (mix1 cs (rs.take k) = some (it, ng))) (fun _ _ t15 _ => rs.length - (intOf t15).toNat)
  case atStart => exact ⟨0, -1, -1, by omega, rfl, rfl, rfl, Below.refl _ _, Lib.hid rfl⟩
  case round =>
    obtain ⟨k, it, ng, hk, rfl, rfl, rfl, hB, hM⟩ := hrel
    by_cases hlt : k < rs.length
    · obtain ⟨ad, rfl, e0, e1, e2, e3⟩ := atRfN HR.out k hlt hlt
      have i1 : (0 : Int) ≤ (k : Int) := by omega
      have i2 : (k : Int) < rs.length := by omega
      have e0 := pw_cell_below hB e0
      have e1 := pw_cell_below hB e1
      have e2 := pw_cell_below hB e2
      have e3 := pw_cell_below hB e3
      obtain ⟨hnm, hin⟩ := HI.out _ (List.getElem_mem hlt)
      have HT := Lib.hid (show mix1 cs (rs.take (k + 1)) = mstep cs (it, ng) rs[k] by rw [List.take_succ_eq_append_getElem hlt, mix1_snoc, hM.out]; rfl)
      generalize rs[k] = r at *
      have hp1 := (HP.out.below hB).below (below_new wr (.cells #[.string r.f0, .int .i64 r.f1, .string r.f2, .int .i64 r.f3] 42))
      obtain ⟨_, _, h3, gm, v2, h4, h5, _, _⟩ := hp1
      have hlk := fun nq => (h5.below (pw_below_drewN (Below.refl _ _) nq)).at_ r.f0 hnm
      obtain ⟨i, hi⟩ := Option.isSome_iff_exists.1 hin
      obtain ⟨hi0, hi1⟩ := vix_bound _ _ _ hi
      obtain ⟨j, rfl⟩ : ∃ j : Nat, i = j := ⟨i.toNat, by omega⟩
      have hj : j < cs.length := by omega
      simp only [hi, Option.getD_some] at hlk
      obtain ⟨ad2, rfl, c0, _, _, _⟩ := atCpN h3 j hj hj
      have HS := Lib.hid (show mix1 cs (rs.take (k + 1)) = mstepB (iterAt r.f1) cs[j].f0 j (it, ng) by
        rw [HT.out]; simp [mstep, cix, hi, negAt, List.getD_eq_getElem?_getD, List.getElem?_eq_getElem hj])
      generalize cs[j].f0 = nb at *
      have p0 := (blk_cell h4 0).trans rfl
      have p1 := (blk_cell h4 1).trans rfl
      have x0 := (blk_cell (blk_new wr (.cells #[.string r.f0, .int .i64 r.f1, .string r.f2, .int .i64 r.f3] 42)) 0).trans rfl
      have hj1 : (0 : Int) ≤ (j : Int) := by omega
      have hj2 : (j : Int) < cs.length := by omega
      clear hi hin HT h3 h5 hi0 hi1
      go_wp2_with fail
      go_quiet (fail)
      have hB2 := below_step hB (pw_below_drewN (below_new wr (.cells #[.string r.f0, .int .i64 r.f1, .string r.f2, .int .i64 r.f3] 42)) nq)
      clear hlk
      go_wp2_with fail
      obtain ⟨b, hb⟩ : ∃ b, b = iterAt r.f1 := ⟨_, rfl⟩
      have hic := fun W => iterating_any r.f0 r.f1 r.f2 r.f3 W
      simp only [← hb] at hic HS
      have p0' := pw_cell_below (pw_below_drewN (Below.refl _ _) nq) p0
      have c0' := pw_cell_below (pw_below_drewN (Below.refl _ _) nq) c0
      clear hb p0 p1 x0 c0 e0 e1 e2 e3 h4
      refine (hic _).mono ?_
      rintro e W3 ⟨rfl, hb3⟩
      have hB3 := below_step hB2 hb3
      have p0 := pw_cell_below hb3 p0'
      have c0 := pw_cell_below hb3 c0'
      clear p0' c0' hb3 hB2 hic
      cases b
      · have t1 := trivial
        cases nb
        · have t0 := trivial
          go_wp2_with fail
          go_roundw
          case rel => exact ⟨k + 1, _, _, by omega, by go_num, rfl, rfl, hB3, Lib.hid (by rw [HS.out]; simp [mstepB, *])⟩
          case measure => simp [intOf]; omega
        · rcases Bool.eq_false_or_eq_true (decide (ng ≥ 0)) with q1 | q1
          · rcases Bool.eq_false_or_eq_true (ng != (j : Int)) with q2 | q2
            · have t0 := trivial
              go_wp2_with fail
              go_ret3
              exact ⟨hB3, by rw [HRES.out, mix1_none cs rs (k + 1) (by rw [HS.out]; simp [mstepB, *])]; rfl⟩
            · have t0 := trivial
              go_wp2_with fail
              go_roundw
              case rel => exact ⟨k + 1, _, _, by omega, by go_num, rfl, rfl, hB3, Lib.hid (by rw [HS.out]; simp [mstepB, *])⟩
              case measure => simp [intOf]; omega
          · have t0 := trivial
            go_wp2_with fail
            go_roundw
            case rel => exact ⟨k + 1, _, _, by omega, by go_num, rfl, rfl, hB3, Lib.hid (by rw [HS.out]; simp [mstepB, *])⟩
            case measure => simp [intOf]; omega
      · rcases Bool.eq_false_or_eq_true (decide (it ≥ 0)) with d1 | d1
        · rcases Bool.eq_false_or_eq_true (it != (j : Int)) with d2 | d2
          · have t1 := trivial
            go_wp2_with fail
            go_ret3
            exact ⟨hB3, by rw [HRES.out, mix1_none cs rs (k + 1) (by rw [HS.out]; simp [mstepB, *])]; rfl⟩
          · have t1 := trivial
            cases nb
            · have t0 := trivial
              go_wp2_with fail
              go_roundw
              case rel => exact ⟨k + 1, _, _, by omega, by go_num, rfl, rfl, hB3, Lib.hid (by rw [HS.out]; simp [mstepB, *])⟩
              case measure => simp [intOf]; omega
            · rcases Bool.eq_false_or_eq_true (decide (ng ≥ 0)) with q1 | q1
              · rcases Bool.eq_false_or_eq_true (ng != (j : Int)) with q2 | q2
                · have t0 := trivial
                  go_wp2_with fail
                  go_ret3
                  exact ⟨hB3, by rw [HRES.out, mix1_none cs rs (k + 1) (by rw [HS.out]; simp [mstepB, *])]; rfl⟩
                · have t0 := trivial
                  go_wp2_with fail
                  go_roundw
                  case rel => exact ⟨k + 1, _, _, by omega, by go_num, rfl, rfl, hB3, Lib.hid (by rw [HS.out]; simp [mstepB, *])⟩
                  case measure => simp [intOf]; omega
              · have t0 := trivial
                go_wp2_with fail
                go_roundw
                case rel => exact ⟨k + 1, _, _, by omega, by go_num, rfl, rfl, hB3, Lib.hid (by rw [HS.out]; simp [mstepB, *])⟩
                case measure => simp [intOf]; omega
        · have t1 := trivial
          cases nb
          · have t0 := trivial
            go_wp2_with fail
            go_roundw
            case rel => exact ⟨k + 1, _, _, by omega, by go_num, rfl, rfl, hB3, Lib.hid (by rw [HS.out]; simp [mstepB, *])⟩
            case measure => simp [intOf]; omega
          · rcases Bool.eq_false_or_eq_true (decide (ng ≥ 0)) with q1 | q1
            · rcases Bool.eq_false_or_eq_true (ng != (j : Int)) with q2 | q2
              · have t0 := trivial
                go_wp2_with fail
                go_ret3
                exact ⟨hB3, by rw [HRES.out, mix1_none cs rs (k + 1) (by rw [HS.out]; simp [mstepB, *])]; rfl⟩
              · have t0 := trivial
                go_wp2_with fail
                go_roundw
                case rel => exact ⟨k + 1, _, _, by omega, by go_num, rfl, rfl, hB3, Lib.hid (by rw [HS.out]; simp [mstepB, *])⟩
                case measure => simp [intOf]; omega
            · have t0 := trivial
              go_wp2_with fail
              go_roundw
              case rel => exact ⟨k + 1, _, _, by omega, by go_num, rfl, rfl, hB3, Lib.hid (by rw [HS.out]; simp [mstepB, *])⟩
              case measure => simp [intOf]; omega
    · have hM2 := hM.out
      rw [List.take_of_length_le (by omega)] at hM2
      have HRES2 := Lib.hid (show res = if rs.any (mbad cs (it, ng)) then (0, 0, 83) else (it, ng, 0) by rw [HRES.out, hM2])
      clear HRES hM hM2
      have HRES := Lib.hid HRES2.out
      clear HRES2
      go_wp2_with fail
      go_loopw [4, 5, 55] (fun t4 t5 t55 wr => ∃ k : Nat, k ≤ rs.length ∧ t55 = .int .i64 k ∧ t4 = .int .i64 it ∧ t5 = .int .i64 ng ∧ Below w.heap.size w wr ∧ Hid ((rs.take k).any (mbad cs (it, ng)) = false)) (fun _ _ t55 _ => rs.length - (intOf t55).toNat)
      case atStart => exact ⟨0, by omega, rfl, rfl, rfl, hB, Lib.hid rfl⟩
      case round =>
        clear hB
        obtain ⟨k, hk, rfl, rfl, rfl, hB, hO⟩ := hrel
        by_cases hlt : k < rs.length
        · obtain ⟨ad, rfl, e0, e1, e2, e3⟩ := atRfN HR.out k hlt hlt
          have i1 : (0 : Int) ≤ (k : Int) := by omega
          have i2 : (k : Int) < rs.length := by omega
          have e0 := pw_cell_below hB e0
          have e1 := pw_cell_below hB e1
          have e2 := pw_cell_below hB e2
          have e3 := pw_cell_below hB e3
          obtain ⟨hnm, hin⟩ := HI.out _ (List.getElem_mem hlt)
          have HT2 := Lib.hid (any_take_succ (mbad cs (it, ng)) rs k hlt)
          have HA := Lib.hid (show mbad cs (it, ng) rs[k] = true → rs.any (mbad cs (it, ng)) = true from fun h => List.any_eq_true.2 ⟨_, List.getElem_mem hlt, h⟩)
          generalize rs[k] = r at *
          have hp1 := (HP.out.below hB).below (below_new wr (.cells #[.string r.f0, .int .i64 r.f1, .string r.f2, .int .i64 r.f3] 42))
          obtain ⟨_, _, h3, gm, v2, h4, h5, _, _⟩ := hp1
          have hlk := fun nq => (h5.below (pw_below_drewN (Below.refl _ _) nq)).at_ r.f0 hnm
          obtain ⟨i, hi⟩ := Option.isSome_iff_exists.1 hin
          obtain ⟨hi0, hi1⟩ := vix_bound _ _ _ hi
          obtain ⟨j, rfl⟩ : ∃ j : Nat, i = j := ⟨i.toNat, by omega⟩
          have hj : j < cs.length := by omega
          simp only [hi, Option.getD_some] at hlk
          obtain ⟨ad2, rfl, c0, _, _, _⟩ := atCpN h3 j hj hj
          have HS := Lib.hid (show mbad cs (it, ng) r = badB (iterAt r.f1) cs[j].f0 j (it, ng) r.f1 by
            simp [mbad, cix, hi, negAt, List.getD_eq_getElem?_getD, List.getElem?_eq_getElem hj])
          generalize cs[j].f0 = nb at *
          have p0 := (blk_cell h4 0).trans rfl
          have p1 := (blk_cell h4 1).trans rfl
          have x0 := (blk_cell (blk_new wr (.cells #[.string r.f0, .int .i64 r.f1, .string r.f2, .int .i64 r.f3] 42)) 0).trans rfl
          have y1 := (blk_cell (blk_new wr (.cells #[.string r.f0, .int .i64 r.f1, .string r.f2, .int .i64 r.f3] 42)) 1).trans rfl
          have hj1 : (0 : Int) ≤ (j : Int) := by omega
          have hj2 : (j : Int) < cs.length := by omega
          clear hi hin h3 h5 hi0 hi1
          go_wp2_with fail
          go_quiet (fail)
          have hB2 := below_step hB (pw_below_drewN (below_new wr (.cells #[.string r.f0, .int .i64 r.f1, .string r.f2, .int .i64 r.f3] 42)) nq)
          clear hlk
          go_wp2_with fail
          obtain ⟨b, hb⟩ : ∃ b, b = iterAt r.f1 := ⟨_, rfl⟩
          have hic := fun W => iterating_any r.f0 r.f1 r.f2 r.f3 W
          simp only [← hb] at hic HS
          have p0' := pw_cell_below (pw_below_drewN (Below.refl _ _) nq) p0
          have c0' := pw_cell_below (pw_below_drewN (Below.refl _ _) nq) c0
          have y1' := pw_cell_below (pw_below_drewN (Below.refl _ _) nq) y1
          clear hb p0 p1 x0 c0 y1 e0 e1 e2 e3 h4
          refine (hic _).mono ?_
          rintro e W3 ⟨rfl, hb3⟩
          have hB3 := below_step hB2 hb3
          have p0 := pw_cell_below hb3 p0'
          have c0 := pw_cell_below hb3 c0'
          have y1 := pw_cell_below hb3 y1'
          clear p0' c0' y1' hb3 hB2 hic
          cases b
          · rcases Bool.eq_false_or_eq_true (decide (it ≥ 0)) with d1 | d1
            · have d1' : decide (it < 0) = false := by simp at d1 ⊢; omega
              cases nb
              · rcases Bool.eq_false_or_eq_true (decide ((j : Int) > it)) with d2 | d2
                · have t1 := trivial
                  go_wp2_with fail
                  go_ret3
                  exact ⟨hB3, by rw [HRES.out, HA.out (by rw [HS.out]; simp [badB, *])]; rfl⟩
                · rcases Bool.eq_false_or_eq_true ((j : Int) == it) with d3 | d3
                  · rcases Bool.eq_false_or_eq_true (r.f1 != 4) with d4 | d4
                    · have t1 := trivial
                      go_wp2_with fail
                      go_ret3
                      exact ⟨hB3, by rw [HRES.out, HA.out (by rw [HS.out]; simp [badB, *])]; rfl⟩
                    · have t1 := trivial
                      go_wp2_with fail
                      go_roundw
                      case rel => exact ⟨k + 1, by omega, by go_num, rfl, rfl, hB3, Lib.hid (by rw [HT2.out, hO.out, HS.out]; simp [badB, *])⟩
                      case measure => simp [intOf]; omega
                  · have t1 := trivial
                    go_wp2_with fail
                    go_roundw
                    case rel => exact ⟨k + 1, by omega, by go_num, rfl, rfl, hB3, Lib.hid (by rw [HT2.out, hO.out, HS.out]; simp [badB, *])⟩
                    case measure => simp [intOf]; omega
              · have t1 := trivial
                go_wp2_with fail
                go_ret3
                exact ⟨hB3, by rw [HRES.out, HA.out (by rw [HS.out]; simp [badB, *])]; rfl⟩
            · have d1' : decide (it < 0) = true := by simp at d1 ⊢; omega
              rcases Bool.eq_false_or_eq_true (decide (ng ≥ 0)) with d2 | d2
              · rcases Bool.eq_false_or_eq_true (decide ((j : Int) > ng)) with d3 | d3
                · have t1 := trivial
                  go_wp2_with fail
                  go_ret3
                  exact ⟨hB3, by rw [HRES.out, HA.out (by rw [HS.out]; simp [badB, *])]; rfl⟩
                · have t1 := trivial
                  go_wp2_with fail
                  go_roundw
                  case rel => exact ⟨k + 1, by omega, by go_num, rfl, rfl, hB3, Lib.hid (by rw [HT2.out, hO.out, HS.out]; simp [badB, *])⟩
                  case measure => simp [intOf]; omega
              · have t1 := trivial
                go_wp2_with fail
                go_roundw
                case rel => exact ⟨k + 1, by omega, by go_num, rfl, rfl, hB3, Lib.hid (by rw [HT2.out, hO.out, HS.out]; simp [badB, *])⟩
                case measure => simp [intOf]; omega
          · have t1 := trivial
            go_wp2_with fail
            go_roundw
            case rel => exact ⟨k + 1, by omega, by go_num, rfl, rfl, hB3, Lib.hid (by rw [HT2.out, hO.out, HS.out]; simp [badB, *])⟩
            case measure => simp [intOf]; omega
        · go_wp2_with fail
          go_ret3
          have h := hO.out
          rw [List.take_of_length_le (by omega)] at h
          exact ⟨hB, by rw [HRES.out, h]; rfl⟩
end Go.Proofs.Ytgnifglolbfamaa
