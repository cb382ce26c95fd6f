/- The walk of the law PlaceAll (printed by mkall2.py). -/
import Derived.Test.YtgnifglolbfamaaPnG
import Derived.Test.YtgnifglolbfamaaPmF
import Derived.Test.YtgnifglolbfamaaPnJ
import Derived.BigRegion
set_option linter.unusedVariables false
set_option linter.unusedSimpArgs false
namespace Go.Proofs.Ytgnifglolbfamaa
open Go.RowKit Go.Proofs.YtgnifglolbfamaaW.PrintWords

set_option maxHeartbeats 8000000 in
set_option maxRecDepth 100000 in
theorem all_walk (hbegun : ∀ w : World, Calls Try.prog 8 #[] w (True_ w)) (hadd : AddLaw) (cs : List Cp) (A : Option Addr) (c : Nat) (q1 : ByteArray) (q2 : Int) (v3 : Value) (ws : List Ex) (AW : Option Addr) (cw : Nat) (q5 : Int) (q6 : ByteArray) (its : List It) (AI : Option Addr) (ci : Nat) (h3 : v3.oneCell' = true) (w : World)
    (hc : cs.length ≤ c) (hC : kCp.C w A cs.length cs) (hW : kEx.C w AW ws.length ws) (hI : kIt.C w AI its.length its) (hnm : ∀ x ∈ cs, x.f3.size ≤ maxLen) (hnr : ∀ x ∈ ws, ∀ r ∈ refsOf x, r.f0.size ≤ maxLen) :
    Calls Try.prog 5 #[.agg #[.slice A cs.length c, .string q1, .int .i64 q2, v3, .slice AW ws.length cw, .int .i64 q5, .string q6, .slice AI its.length ci]] w (True_ w) := by
  have hmx := hC.2.1
  have hmw := hW.2.1
  have hb1 := below_new w (.cells #[.slice A cs.length c, .string q1, .int .i64 q2, v3, .slice AW ws.length cw, .int .i64 q5, .string q6, .slice AI its.length ci] 27)
  have hQ := blk_new w (.cells #[.slice A cs.length c, .string q1, .int .i64 q2, v3, .slice AW ws.length cw, .int .i64 q5, .string q6, .slice AI its.length ci] 27)
  have HC := Lib.hid hC
  have HWW := Lib.hid hW
  have HI := Lib.hid hI
  have HNM := Lib.hid hnm
  have HNR := Lib.hid hnr
  have HHC := Lib.hid hc
  have HADL := Lib.hid hadd
  have HBG := Lib.hid hbegun
  clear hC hW hI hnm hnr hc hadd hbegun
  go_enter Try.func5, Try.ntmps5
  go_wp2_with fail
  generalize w.alloc (.cells #[.slice A cs.length c, .string q1, .int .i64 q2, v3, .slice AW ws.length cw, .int .i64 q5, .string q6, .slice AI its.length ci] 27) = W1 at *
  refine (HBG.out W1).mono ?_
  rintro e W2 ⟨rfl, hbw2⟩
  have hB2 := below_step hb1 hbw2
  have hQ2 := blk_below hQ hbw2
  have k0 := (blk_cell (hQ2) 0).trans rfl
  have k1 := (blk_cell (hQ2) 1).trans rfl
  have k2 := (blk_cell (hQ2) 2).trans rfl
  have k3 := (blk_cell (hQ2) 3).trans rfl
  have k4 := (blk_cell (hQ2) 4).trans rfl
  have k5 := (blk_cell (hQ2) 5).trans rfl
  have k6 := (blk_cell (hQ2) 6).trans rfl
  have k7 := (blk_cell (hQ2) 7).trans rfl
  have HQC := Lib.hid (heavyQuery_any (.slice A cs.length c) q1 q2 v3 ws AW cw q5 q6 its AI ci rfl h3 W2 (Kd.C_below HWW.out hB2) (Kd.C_below HI.out hB2))
  obtain ⟨hq, hhq⟩ : ∃ hq, hq = decide (16384 < itN its + exNL ws) := ⟨_, rfl⟩
  rw [← hhq] at HQC
  have HHQ := Lib.hid hhq
  clear hhq
  go_wp2_with fail
  refine HQC.out.mono ?_
  rintro e W3 ⟨rfl, hb3⟩
  have hB3 := below_step hB2 hb3
  cases hq with
  | true =>
    go_wp2_with fail
    go_ret
    exact ⟨rfl, hB3⟩
  | false =>
    have hN : exNL ws ≤ 16384 := by
      have h := of_decide_eq_false HHQ.out.symm
      omega
    have hwl := exNL_len ws
    have hQ3 := blk_below hQ2 hb3
    have k0 := (blk_cell (hQ3) 0).trans rfl
    have k1 := (blk_cell (hQ3) 1).trans rfl
    have k2 := (blk_cell (hQ3) 2).trans rfl
    have k3 := (blk_cell (hQ3) 3).trans rfl
    have k4 := (blk_cell (hQ3) 4).trans rfl
    have k5 := (blk_cell (hQ3) 5).trans rfl
    have k6 := (blk_cell (hQ3) 6).trans rfl
    have k7 := (blk_cell (hQ3) 7).trans rfl
    have HPL := Lib.hid (Place_any HADL.out cs A c q1 q2 v3 ws AW cw q5 q6 (.slice AI its.length ci) h3 rfl W3 HHC.out (Kd.C_below HC.out hB3) HNM.out (Kd.C_below HWW.out hB3) (by omega) HNR.out)
    go_wp2_with fail
    refine HPL.out.mono ?_
    rintro e W4 ⟨hb4, hcase⟩
    have hB4 := below_step hB3 hb4
    rcases hcase with ⟨hpe, rfl⟩ | ⟨_, hpe, rfl⟩ | ⟨hpe, hqe, G, S, N, T, U, Pl, nb, cap, junk, V, f, base, hbase, hLI, rfl⟩
    · have d : (patErr cs != 0) = true := by simpa using hpe
      generalize patErr cs = pe at *
      go_wp2_with fail
      go_ret
      exact ⟨rfl, hB4⟩
    · have d : (placeErr cs ws != 0) = true := by simpa using hpe
      generalize placeErr cs ws = pe at *
      go_wp2_with fail
      go_ret
      exact ⟨rfl, hB4⟩
    · obtain ⟨p0, p1, p2, p3, p4⟩ := patErr_parts hpe
      have HPE := Lib.hid hpe
      have HOK := Lib.hid (anchors_ok hpe hqe)
      have HTOT := Lib.hid ((totF_part cs (placeL cs ws)).symm.trans (tot_all hpe ws (anchors_ok hpe hqe)))
      have HLEN := Lib.hid (placeL_len cs ws)
      have hst := stg_len cs
      obtain ⟨A5, c5, e5⟩ := Kd.R_slice (hLI.hL 5 0 (by decide))
      have HE5 := Lib.hid e5
      have hl5 := HLEN.out 5 0
      generalize hPL : placeL cs ws = PL at *
      have HPLE := Lib.hid hPL
      clear hPL
      rw [e5]
      have HLI := Lib.hid hLI
      have HSLT := Lib.hid (stA_lt cs p4)
      have HP4 := Lib.hid p4
      have HP2 := Lib.hid p2
      clear hpe hqe p2 p3 p4 e5 hLI
      have hQ4 := blk_below hQ3 hb4
      have k0 := (blk_cell (hQ4) 0).trans rfl
      have k1 := (blk_cell (hQ4) 1).trans rfl
      have k2 := (blk_cell (hQ4) 2).trans rfl
      have k3 := (blk_cell (hQ4) 3).trans rfl
      have k4 := (blk_cell (hQ4) 4).trans rfl
      have k5 := (blk_cell (hQ4) 5).trans rfl
      have k6 := (blk_cell (hQ4) 6).trans rfl
      have k7 := (blk_cell (hQ4) 7).trans rfl
      have HST := Lib.hid (stage_any cs A c q1 q2 v3 (.slice AW ws.length cw) q5 q6 (.slice AI its.length ci) h3 rfl rfl cs.length (Nat.le_refl _) W4 (Kd.C_below HC.out hB4))
      rw [List.take_length] at HST
      go_wp2_with fail
      refine HST.out.mono ?_
      rintro e W5 ⟨rfl, hb5⟩
      have hB5 := below_step hB4 hb5
      have HQ5 := Lib.hid (blk_below hQ4 hb5)
      have HL5 := Lib.hid (HLI.out.below hb5)
      have dst : ((stg cs : Int) != (stg cs : Int)) = false := by simp
      clear k0 k1 k2 k3 k4 k5 k6 k7 hQ hQ2 hQ3 hQ4
      generalize hl50 : (PL 5 0).length = l50 at *
      have HL50 := Lib.hid hl50
      clear hl50
      generalize hsg : stg cs = sg at *
      have HSG := Lib.hid hsg
      clear hsg
      go_wp2_with fail
      go_loopw [7, 8, 9, 10] (fun t7 t8 t9 t10 wr => ∃ i tt : Nat, i ≤ cs.length ∧ t10 = .int .i64 i ∧ t8 = .int .i64 (stA cs i : Nat) ∧ t9 = .int .i64 ((ngI cs i (stA cs i)).length : Nat) ∧ t7 = .int .i64 tt ∧ tt ≤ 100000 + 1000000 * i ∧ Below W5.heap.size W5 wr ∧ Hid (tt = l50 + sumN (partF cs PL) (List.range i))) (fun _ _ _ t10 _ => cs.length - (intOf t10).toNat)
      case atStart => exact ⟨0, l50, by omega, rfl, by simp [stA, stg], by simp [ngI], rfl, by omega, Below.refl _ _, Lib.hid (by simp [sumN])⟩
      case round =>
        obtain ⟨i, tt, hi, rfl, rfl, rfl, rfl, htt, hB, hO⟩ := hrel
        generalize wr = w2 at *
        have hQr := blk_below HQ5.out hB
        have k0 := (blk_cell (hQr) 0).trans rfl
        have k1 := (blk_cell (hQr) 1).trans rfl
        have k2 := (blk_cell (hQr) 2).trans rfl
        have k3 := (blk_cell (hQr) 3).trans rfl
        have k4 := (blk_cell (hQr) 4).trans rfl
        have k5 := (blk_cell (hQr) 5).trans rfl
        have k6 := (blk_cell (hQr) 6).trans rfl
        have k7 := (blk_cell (hQr) 7).trans rfl
        by_cases hlt : i < cs.length
        · have i1 : (0 : Int) ≤ (i : Int) := by omega
          have i2 : (i : Int) < cs.length := by omega
          obtain ⟨ad, rfl, c0, c1, c2, c3⟩ := atCpN (Kd.C_below HC.out (below_step hB5 hB)) i hlt hlt
          have HY := Lib.hid (show cs[i] = cpA cs i by simp [cpA, List.getD_eq_getElem?_getD, List.getElem?_eq_getElem hlt])
          generalize cs[i] = y at *
          have hsl := HSLT.out i hlt
          have i3 : (0 : Int) ≤ (stA cs i : Int) := by omega
          have i4 : (stA cs i : Int) < (sg : Int) := by omega
          have i5 : decide ((sg : Int) ≤ (stA cs i : Int)) = false := decide_eq_false (by omega)
          have hjb := ngI_len cs i (stA cs i)
          cases hy : y.f0 with
          | true =>
            have hneg : negB cs i = true := by rw [← hy, HY.out]; rfl
            rw [hy] at c0
            have hbn := below_new w2 (.cells #[.bool true, .bool y.f1, .string y.f2, .string y.f3] 46)
            have hZ := blk_new w2 (.cells #[.bool true, .bool y.f1, .string y.f2, .string y.f3] 46)
            have HL6 := Lib.hid ((HL5.out.below hB).below hbn)
            have hB6 := below_step hB hbn
            have e3 := (HL6.out.hS.cell (i := stA cs i * 7 + 3) (by have := HSG.out; omega)).trans (by rw [cellS_at3])
            have hnv : nv cs nb cap (stA cs i) = .slice (some ⟨nb (stA cs i), 0, none⟩) (ngI cs cs.length (stA cs i)).length (cap (stA cs i)) := by unfold nv; rw [if_neg (ngI_ne hlt hneg)]
            rw [hnv] at e3
            obtain ⟨n1, n2, n3⟩ := HL6.out.hB _ (ngI_ne hlt hneg)
            have hjm := (List.getElem?_eq_some_iff.1 (ngI_at cs i hlt hneg)).1
            have f0 := (n3.cell (i := (ngI cs i (stA cs i)).length * 3) (by omega)).trans (congrArg some (cellN_at cs (V 4) (junk (stA cs i)) i 0 hlt hneg (by omega)))
            have f1 := (n3.cell (i := (ngI cs i (stA cs i)).length * 3 + 1) (by omega)).trans (congrArg some (cellN_at cs (V 4) (junk (stA cs i)) i 1 hlt hneg (by omega)))
            have f2 := (n3.cell (i := (ngI cs i (stA cs i)).length * 3 + 2) (by omega)).trans (congrArg some (cellN_at cs (V 4) (junk (stA cs i)) i 2 hlt hneg (by omega)))
            rw [← HY.out] at f0 f1
            simp only [if_true, if_false, Nat.one_ne_zero, show ¬ (2 : Nat) = 0 from by omega, show ¬ (2 : Nat) = 1 from by omega] at f0 f1 f2
            obtain ⟨A4, c4, e4⟩ := Kd.R_slice (HL6.out.hL 4 i (by decide))
            rw [e4] at f2
            have hl4 := HLEN.out 4 i
            have hpf : partF cs PL i = (PL 4 i).length := by unfold partF; rw [hneg]; rfl
            have hng : (ngI cs (i + 1) (stA cs (i + 1))).length = (ngI cs i (stA cs i)).length + 1 := by
              have h1 := stA_succ cs i hlt
              rw [hneg] at h1
              simp at h1
              rw [h1, ngI_succ, hneg]
              simp
            have hss : stA cs (i + 1) = stA cs i := by have h1 := stA_succ cs i hlt; rw [hneg] at h1; simpa using h1
            have HX := Lib.hid (And.intro hpf (And.intro hng hss))
            have HE := Lib.hid (And.intro e4 (And.intro n1 n3))
            clear hpf hng hss e4 n1 n3 hneg hy hnv
            have j1 : (0 : Int) ≤ ((ngI cs i (stA cs i)).length : Int) := by omega
            have j2 : ((ngI cs i (stA cs i)).length : Int) < ((ngI cs cs.length (stA cs i)).length : Int) := by omega
            have j3 : decide (((ngI cs cs.length (stA cs i)).length : Int) ≤ ((ngI cs i (stA cs i)).length : Int)) = false := decide_eq_false (by omega)
            obtain ⟨l4, hl4e⟩ : ∃ l4, l4 = (PL 4 i).length := ⟨_, rfl⟩
            rw [← hl4e] at f2 hl4
            have HL4E := Lib.hid hl4e
            clear hl4e
            obtain ⟨jj, hjj⟩ : ∃ jj, jj = (ngI cs i (stA cs i)).length := ⟨_, rfl⟩
            rw [← hjj] at f0 f1 f2 j1 j2 j3 hjb hjm ⊢
            have HJJ := Lib.hid hjj
            clear hjj
            obtain ⟨jm, hjme⟩ : ∃ jm, jm = (ngI cs cs.length (stA cs i)).length := ⟨_, rfl⟩
            rw [← hjme] at e3 j2 j3 hjm
            have HJM := Lib.hid hjme
            clear hjme
            obtain ⟨s, hs⟩ : ∃ s, s = stA cs i := ⟨_, rfl⟩
            rw [← hs] at e3 i3 i4 i5 hsl f0 f1 f2 ⊢
            have HS := Lib.hid hs
            clear hs
            have z0 := (blk_cell hZ 0).trans rfl
            have z1 := (blk_cell hZ 1).trans rfl
            have z2 := (blk_cell hZ 2).trans rfl
            have z3 := (blk_cell hZ 3).trans rfl
            go_wp2_with fail
            generalize w2.alloc (.cells #[.bool true, .bool y.f1, .string y.f2, .string y.f3] 46) = W6 at *
            go_quiet (fail)
            have hbq := pw_below_drewN (Below.refl W6.heap.size W6) nq
            have e3 := pw_cell_below hbq e3
            have f2 := pw_cell_below hbq f2
            have hB7 := below_step hB6 hbq
            generalize W6.drewN nq = W7 at *
            clear f0 f1 z0 z1 z2 z3
            go_wp2_with fail
            go_roundw
            case rel =>
              have := HX.out
              have h1 := HS.out
              have h2 := HJJ.out
              have h3 := HL4E.out
              have h4 := hO.out
              refine ⟨i + 1, tt + l4, by omega, by go_num, by rw [this.2.2, ← h1], by rw [this.2.1, ← h2]; go_num, by go_num, by omega, hB7, Lib.hid ?_⟩
              rw [sumN_range_succ, this.1, h4, h3]
              omega
            case measure => simp [intOf]; omega
          | false =>
            have hneg : negB cs i = false := by rw [← hy, HY.out]; rfl
            rw [hy] at c0
            have hbn := below_new w2 (.cells #[.bool false, .bool y.f1, .string y.f2, .string y.f3] 46)
            have hZ := blk_new w2 (.cells #[.bool false, .bool y.f1, .string y.f2, .string y.f3] 46)
            have HL6 := Lib.hid ((HL5.out.below hB).below hbn)
            have hB6 := below_step hB hbn
            have hoS : stA cs i * 7 + 6 < stg cs * 7 := by have := HSG.out; omega
            obtain ⟨hT, hU, hP⟩ := HL6.out.hT i hlt hneg
            rw [← HY.out] at hT hU hP
            have f0 := (HL6.out.hS.cell (i := stA cs i * 7) (by omega)).trans (by rw [cellS_at0, hT])
            have f1 := (HL6.out.hS.cell (i := stA cs i * 7 + 1) (by omega)).trans (by rw [cellS_at1, hU])
            have f2 := (HL6.out.hS.cell (i := stA cs i * 7 + 2) (by omega)).trans (by rw [cellS_at2, hP])
            have hnv : ∃ A3 c3, nv cs nb cap (stA cs i) = .slice A3 (ngI cs i (stA cs i)).length c3 := by
              unfold nv
              rw [pos_ngI hlt hneg]
              split
              · rename_i h; rw [h]; exact ⟨_, _, rfl⟩
              · exact ⟨_, _, rfl⟩
            obtain ⟨A3, c3, hnv⟩ := hnv
            have f3 := (HL6.out.hS.cell (i := stA cs i * 7 + 3) (by omega)).trans (by rw [cellS_at3, hnv])
            obtain ⟨A4, c4, e4⟩ := Kd.R_slice (HL6.out.hL 1 (stA cs i) (by decide))
            obtain ⟨A6, c6, e6⟩ := Kd.R_slice (HL6.out.hL 2 (stA cs i) (by decide))
            obtain ⟨A7, c7, e7⟩ := Kd.R_slice (HL6.out.hL 3 (stA cs i) (by decide))
            have f4 := (HL6.out.hS.cell (i := stA cs i * 7 + 4) (by omega)).trans (by rw [cellS_at4, e4])
            have f5 := (HL6.out.hS.cell (i := stA cs i * 7 + 5) (by omega)).trans (by rw [cellS_at5, e6])
            have f6 := (HL6.out.hS.cell (i := stA cs i * 7 + 6) (by omega)).trans (by rw [cellS_at6, e7])
            have hl4 := HLEN.out 1 (stA cs i)
            have hl6 := HLEN.out 2 (stA cs i)
            have hl7 := HLEN.out 3 (stA cs i)
            have hpf : partF cs PL i = (PL 1 (stA cs i)).length + (PL 2 (stA cs i)).length + (PL 3 (stA cs i)).length := by unfold partF; rw [hneg]; rfl
            have hng : (ngI cs (i + 1) (stA cs (i + 1))).length = 0 := by rw [ngI_next hlt hneg]; rfl
            have hss : stA cs (i + 1) = stA cs i + 1 := by have h1 := stA_succ cs i hlt; rw [hneg] at h1; simpa using h1
            have HX := Lib.hid (And.intro hpf (And.intro hng hss))
            clear hpf hng hss e4 e6 e7 hneg hy hnv hT hU hP hoS
            obtain ⟨l4, hl4e⟩ : ∃ l4, l4 = (PL 1 (stA cs i)).length := ⟨_, rfl⟩
            rw [← hl4e] at f4 hl4
            obtain ⟨l6, hl6e⟩ : ∃ l6, l6 = (PL 2 (stA cs i)).length := ⟨_, rfl⟩
            rw [← hl6e] at f5 hl6
            obtain ⟨l7, hl7e⟩ : ∃ l7, l7 = (PL 3 (stA cs i)).length := ⟨_, rfl⟩
            rw [← hl7e] at f6 hl7
            have HLE := Lib.hid (And.intro hl4e (And.intro hl6e hl7e))
            clear hl4e hl6e hl7e
            obtain ⟨jj, hjj⟩ : ∃ jj, jj = (ngI cs i (stA cs i)).length := ⟨_, rfl⟩
            rw [← hjj] at f3 hjb ⊢
            have HJJ := Lib.hid hjj
            clear hjj
            obtain ⟨s, hs⟩ : ∃ s, s = stA cs i := ⟨_, rfl⟩
            rw [← hs] at i3 i4 i5 hsl f0 f1 f2 f3 f4 f5 f6 ⊢
            have HS := Lib.hid hs
            clear hs
            have z0 := (blk_cell hZ 0).trans rfl
            have z1 := (blk_cell hZ 1).trans rfl
            have z2 := (blk_cell hZ 2).trans rfl
            have z3 := (blk_cell hZ 3).trans rfl
            go_wp2_with fail
            generalize w2.alloc (.cells #[.bool false, .bool y.f1, .string y.f2, .string y.f3] 46) = W6 at *
            go_quiet (fail)
            have hbq := pw_below_drewN (Below.refl W6.heap.size W6) nq
            have f4 := pw_cell_below hbq f4
            have f5 := pw_cell_below hbq f5
            have f6 := pw_cell_below hbq f6
            have hB7 := below_step hB6 hbq
            generalize W6.drewN nq = W7 at *
            clear f0 f1 f2 f3 z0 z1 z2 z3
            have hw1 : IntKind.i64.wrap ((tt : Int) + (l4 : Int)) = (tt : Int) + (l4 : Int) := IntWalk.i64_in _ (by omega)
            have hw2 : IntKind.i64.wrap ((tt : Int) + (l4 : Int) + (l6 : Int)) = (tt : Int) + (l4 : Int) + (l6 : Int) := IntWalk.i64_in _ (by omega)
            have hw3 : IntKind.i64.wrap ((tt : Int) + (l4 : Int) + (l6 : Int) + (l7 : Int)) = (tt : Int) + (l4 : Int) + (l6 : Int) + (l7 : Int) := IntWalk.i64_in _ (by omega)
            go_wp2_with fail
            go_quiet (fail)
            have hB8 := pw_below_drewN hB7 nq
            generalize W7.drewN nq = W8 at *
            go_wp2_with fail
            go_roundw
            case rel =>
              have := HX.out
              have h1 := HS.out
              have h3 := HLE.out
              have h4 := hO.out
              refine ⟨i + 1, tt + l4 + l6 + l7, by omega, by go_num, by rw [this.2.2, ← h1]; go_num, by rw [this.2.1]; rfl, by go_num, by omega, hB8, Lib.hid ?_⟩
              rw [sumN_range_succ, this.1, h4, h3.1, h3.2.1, h3.2.2]
              omega
            case measure => simp [intOf]; omega
        · obtain rfl : i = cs.length := by omega
          have htt2 : tt = sumN (fun y => 1 + twice cs y) ws := hO.out.trans HTOT.out
          go_wp2_with fail
          clear k0 k1 k2 k3 k4 k5 k6 k7
          go_loopw [7, 12] (fun t7 t12 wr => ∃ j al : Nat, j ≤ ws.length ∧ t12 = .int .i64 j ∧ t7 = .int .i64 al ∧ al ≤ 20000000 ∧ Below w2.heap.size w2 wr ∧ Hid (al = sumN (fun y => 1 + twice cs y) (ws.drop j))) (fun _ t12 _ => ws.length - (intOf t12).toNat)
          case atStart => exact ⟨0, tt, by omega, rfl, rfl, by omega, Below.refl _ _, Lib.hid (by rw [htt2]; rfl)⟩
          case round =>
            obtain ⟨j, al, hj, rfl, rfl, hal, hBj, hOj⟩ := hrel
            generalize wr = w3 at *
            have hBw := below_step (below_step hB5 hB) hBj
            have hQj := blk_below hQr hBj
            have k0 := (blk_cell (hQj) 0).trans rfl
            have k1 := (blk_cell (hQj) 1).trans rfl
            have k2 := (blk_cell (hQj) 2).trans rfl
            have k3 := (blk_cell (hQj) 3).trans rfl
            have k4 := (blk_cell (hQj) 4).trans rfl
            have k5 := (blk_cell (hQj) 5).trans rfl
            have k6 := (blk_cell (hQj) 6).trans rfl
            have k7 := (blk_cell (hQj) 7).trans rfl
            by_cases hlt : j < ws.length
            · have i1 : (0 : Int) ≤ (j : Int) := by omega
              have i2 : (j : Int) < ws.length := by omega
              have hat := atEx (Kd.C_below HWW.out hBw) j i1 i2
              simp only [Int.toNat_natCast] at hat
              obtain ⟨ad, B9, b9, rfl, e0, e1, e2, e3, e4, e5, e6, e7, e8, e9, hl9, hi9⟩ := hat
              have HR := Lib.hid (rdEx_get ws j hlt)
              generalize rdEx ws j = y at *
              have hyN : exN y ≤ exNL ws := by rw [HR.out]; exact exN_get _ _ hlt
              have hyB : exN y ≤ 100000000000 := by omega
              have hmem : y ∈ ws := by rw [HR.out]; exact List.getElem_mem hlt
              have HDR := Lib.hid (show ws.drop j = y :: ws.drop (j + 1) by rw [List.drop_eq_getElem_cons hlt, HR.out])
              obtain ⟨k, n, ha⟩ := HOK.out y hmem
              have hbn := below_new w3 (.cells #[.int .i64 y.f0, .int .i64 y.f1, .int .i64 y.f2.f0, .int .i64 y.f2.f1, .string y.f2.f2, .bool y.f2.f3, .string y.f3, .int .i64 y.f4, .string y.f5, .slice B9 y.f6.length b9] 31)
              have hY := blk_new w3 (.cells #[.int .i64 y.f0, .int .i64 y.f1, .int .i64 y.f2.f0, .int .i64 y.f2.f1, .string y.f2.f2, .bool y.f2.f3, .string y.f3, .int .i64 y.f4, .string y.f5, .slice B9 y.f6.length b9] 31)
              have hB4 := below_step hBj hbn
              have hQ4 := blk_below hQj hbn
              have m0 := (blk_cell (hQ4) 0).trans rfl
              have m1 := (blk_cell (hQ4) 1).trans rfl
              have m2 := (blk_cell (hQ4) 2).trans rfl
              have m3 := (blk_cell (hQ4) 3).trans rfl
              have m4 := (blk_cell (hQ4) 4).trans rfl
              have m5 := (blk_cell (hQ4) 5).trans rfl
              have m6 := (blk_cell (hQ4) 6).trans rfl
              have m7 := (blk_cell (hQ4) 7).trans rfl
              have y0 := (blk_cell (hY) 0).trans rfl
              have y1 := (blk_cell (hY) 1).trans rfl
              have y2 := (blk_cell (hY) 2).trans rfl
              have y3 := (blk_cell (hY) 3).trans rfl
              have y4 := (blk_cell (hY) 4).trans rfl
              have y5 := (blk_cell (hY) 5).trans rfl
              have y6 := (blk_cell (hY) 6).trans rfl
              have y7 := (blk_cell (hY) 7).trans rfl
              have y8 := (blk_cell (hY) 8).trans rfl
              have y9 := (blk_cell (hY) 9).trans rfl
              have hanc := Anchor_any cs A c q1 q2 v3 (.slice (some ad) ws.length cw) q5 q6 (.slice AI its.length ci) h3 rfl rfl y B9 b9 _ HHC.out (Kd.C_below HC.out (below_step hBw hbn)) HNM.out (HNR.out y hmem) hyB hl9 (Kd.C_below hi9 hbn)
              have han : anchorTop cs (refsOf y) = ((k : Int), (n : Int), 0) := by unfold anchorTop; rw [if_neg (by simp [HPE.out])]; exact ha
              unfold MixPost at hanc
              rw [han] at hanc
              have HANC := Lib.hid hanc
              unfold exV at HANC
              have HC9 := Lib.hid (Kd.C_below hi9 hbn)
              have HL9 := Lib.hid hl9
              have HYB := Lib.hid hyB
              have HMEM := Lib.hid hmem
              have HA := Lib.hid ha
              clear hi9 hl9 hyB hyN hmem ha hanc han
              go_wp2_with fail
              generalize w3.alloc (.cells #[.int .i64 y.f0, .int .i64 y.f1, .int .i64 y.f2.f0, .int .i64 y.f2.f1, .string y.f2.f2, .bool y.f2.f3, .string y.f3, .int .i64 y.f4, .string y.f5, .slice B9 y.f6.length b9] 31) = W6 at *
              refine HANC.out.mono ?_
              rintro e W7 ⟨hb7, rfl⟩
              have hB7 := below_step hB4 hb7
              have hY7 := blk_below hY hb7
              have hQ7 := blk_below hQ4 hb7
              clear m0 m1 m2 m3 m4 m5 m6 m7 y0 y1 y2 y3 y4 y5 y6 y7 y8 y9
              have y0 := (blk_cell (hY7) 0).trans rfl
              have y1 := (blk_cell (hY7) 1).trans rfl
              have y2 := (blk_cell (hY7) 2).trans rfl
              have y3 := (blk_cell (hY7) 3).trans rfl
              have y4 := (blk_cell (hY7) 4).trans rfl
              have y5 := (blk_cell (hY7) 5).trans rfl
              have y6 := (blk_cell (hY7) 6).trans rfl
              have y7 := (blk_cell (hY7) 7).trans rfl
              have y8 := (blk_cell (hY7) 8).trans rfl
              have y9 := (blk_cell (hY7) 9).trans rfl
              have hrf := refs_any y B9 b9 W7 HYB.out HL9.out (Kd.C_below HC9.out hb7)
              have HRF := Lib.hid hrf
              unfold exV at HRF
              clear hrf
              go_wp2_with fail
              refine HRF.out.mono ?_
              rintro e W8 ⟨hb8, v, rfl, hR8⟩
              obtain ⟨A8, c8, rfl, hc8, hC8⟩ := Kd.R_reads hR8
              have HTW := Lib.hid (show twice cs y = if k = 2 ∧ (refsOf y).any backAt = false then 1 else 0 by
                unfold twice againOf
                rw [HA.out]
                by_cases h2 : k = 2 <;> cases (refsOf y).any backAt <;> simp [h2] <;> omega)
              have hB8 := below_step hB7 hb8
              have HC8 := Lib.hid hC8
              clear hR8 hC8 y0 y1 y2 y3 y4 y5 y6 y7 y8 y9 k0 k1 k2 k3 k4 k5 k6 k7
              have HRQ := Lib.hid (show refsOf y = refsOf y from rfl)
              generalize refsOf y = L at HTW HC8 ⊢
              have hmr := HC8.out.2.1
              have hY8 := blk_below hY7 hb8
              have hQ8 := blk_below hQ7 hb8
              have hbQ8 := below_step (below_step hbn hb7) hb8
              have HH8 := Lib.hid (And.intro hY8 (And.intro hQ8 hbQ8))
              clear hY8 hQ8 hbQ8 hY hY7 hQ4 hQ7
              go_wp2_with fail
              go_loopw [18, 19] (fun t18 t19 wr => ∃ r tm : Nat, r ≤ L.length ∧ t19 = .int .i64 r ∧ t18 = .int .i64 tm ∧ Below W8.heap.size W8 wr ∧ Hid (tm = if (L.take r).any backAt then 0 else 1)) (fun _ t19 _ => L.length - (intOf t19).toNat)
              case atStart => exact ⟨0, 1, by omega, rfl, rfl, Below.refl _ _, Lib.hid rfl⟩
              case round =>
                obtain ⟨r, tm, hr, rfl, rfl, hBr, hOr⟩ := hrel
                generalize wr = w4 at *
                by_cases hltr : r < L.length
                · obtain ⟨ad2, rfl, g0, g1, g2, g3⟩ := atRfN (Kd.C_below HC8.out hBr) r hltr hltr
                  have i3 : (0 : Int) ≤ (r : Int) := by omega
                  have i4 : (r : Int) < L.length := by omega
                  have HT := Lib.hid (any_take_succ backAt L r hltr)
                  generalize L[r] = z at *
                  have hcase : (z.f1 == 3) = true ∨ ((z.f1 == 3) = false ∧ (z.f1 == 7) = true) ∨ ((z.f1 == 3) = false ∧ (z.f1 == 7) = false) := by
                    cases (z.f1 == 3) <;> cases (z.f1 == 7) <;> simp
                  rcases hcase with d1 | ⟨d1, d2⟩ | ⟨d1, d2⟩
                  iterate 2
                    · have HF := Lib.hid (show backAt z = true by simp [backAt]; simp at *; omega)
                      go_wp2_with fail
                      go_roundw
                      case rel => exact ⟨r + 1, 0, by omega, by go_num, rfl, hBr, Lib.hid (by rw [HT.out, HF.out, Bool.or_true]; rfl)⟩
                      case measure => simp [intOf]; omega
                  · have HF := Lib.hid (show backAt z = false by simp [backAt]; simp at *; omega)
                    go_wp2_with fail
                    go_roundw
                    case rel => exact ⟨r + 1, tm, by omega, by go_num, rfl, hBr, Lib.hid (by rw [HT.out, HF.out, Bool.or_false]; exact hOr.out)⟩
                    case measure => simp [intOf]; omega
                · obtain rfl : r = L.length := by omega
                  have htm : tm = if L.any backAt then 0 else 1 := by have h := hOr.out; rwa [List.take_length] at h
                  obtain ⟨hY8, hQ8, hbQ8⟩ := HH8.out
                  have hYr := blk_below hY8 hBr
                  have hQr' := blk_below hQ8 hBr
                  have hbr := below_step hbQ8 hBr
                  have k0 := (blk_cell hQr' 0).trans rfl
                  have k1 := (blk_cell hQr' 1).trans rfl
                  have k2 := (blk_cell hQr' 2).trans rfl
                  have k3 := (blk_cell hQr' 3).trans rfl
                  have k4 := (blk_cell hQr' 4).trans rfl
                  have k5 := (blk_cell hQr' 5).trans rfl
                  have k6 := (blk_cell hQr' 6).trans rfl
                  have k7 := (blk_cell hQr' 7).trans rfl
                  have y0 := (blk_cell hYr 0).trans rfl
                  have y1 := (blk_cell hYr 1).trans rfl
                  have y2 := (blk_cell hYr 2).trans rfl
                  have y3 := (blk_cell hYr 3).trans rfl
                  have y4 := (blk_cell hYr 4).trans rfl
                  have y5 := (blk_cell hYr 5).trans rfl
                  have y6 := (blk_cell hYr 6).trans rfl
                  have y7 := (blk_cell hYr 7).trans rfl
                  have y8 := (blk_cell hYr 8).trans rfl
                  have y9 := (blk_cell hYr 9).trans rfl
                  have hcase : ∃ tw : Nat, tw = twice cs y ∧ (((k : Int) != 2) = true ∧ tw = 0 ∨ ((k : Int) != 2) = false ∧ tw = tm) := by
                    refine ⟨_, rfl, ?_⟩
                    rw [HTW.out, htm]
                    by_cases h2 : k = 2
                    · right
                      refine ⟨by rw [h2]; rfl, ?_⟩
                      cases L.any backAt <;> simp [h2]
                    · left
                      refine ⟨by simpa using (show ¬ (k : Int) = 2 by omega), ?_⟩
                      simp [h2]
                  obtain ⟨tw, htw, hcase⟩ := hcase
                  have HTWE := Lib.hid htw
                  have HTM := Lib.hid htm
                  clear htw htm
                  have hLr := (HL5.out.below hB).below (below_step hB8 hBr)
                  have hWr := Kd.C_below HWW.out (below_step hBw hbr)
                  have hC9r := Kd.C_below HC9.out (below_step (below_step hb7 hb8) hBr)
                  have HC46 := Lib.hid (count_any ws (some ad) cw y B9 b9 w4 hWr hC9r)
                  unfold exV at HC46
                  have HCP := Lib.hid (cntX_le ws y)
                  obtain ⟨cp, hcp⟩ : ∃ cp, cp = cntX ws y := ⟨_, rfl⟩
                  rw [← hcp] at HC46 HCP
                  have HCPE := Lib.hid hcp
                  have HLr := Lib.hid hLr
                  have HC9r := Lib.hid hC9r
                  clear hcp hLr hWr hC9r
                  have hcpl := cntX_le ws y
                  have HC46 := Lib.hid (count_any ws (some ad) cw y B9 b9 w4 (Kd.C_below HWW.out (below_step hBw hbr)) (Kd.C_below HC9.out (below_step (below_step hb7 hb8) hBr)))
                  unfold exV at HC46
                  obtain ⟨evr, hevr⟩ : ∃ evr, evr = everyX (stagesL cs T U Pl PL) (PL 5 0) y := ⟨_, rfl⟩
                  have hev : evr = cntX ws y * (1 + tw) := by
                    rw [hevr, everyX_evF, ← HPLE.out, HTWE.out]
                    exact every_count HA.out HPE.out ws
                  have hns : k ≠ 4 → n < sg := by
                    obtain ⟨k', n', h1, h2, _, h3⟩ := anchor_law HA.out HPE.out
                    obtain rfl : k = k' := by omega
                    obtain rfl : n = n' := by omega
                    have := HSG.out
                    intro h4
                    rcases h3 with ⟨_, h⟩ | ⟨_, h⟩ | ⟨h, _⟩
                    · have := h.lt; omega
                    · have := h.lt; omega
                    · exact absurd h h4
                  have hall : ∀ W, Below W8.heap.size W8 W → ∃ AL cL lL, (∀ W', Below W.heap.size W W' → Calls Try.prog 27 #[.agg #[.slice A cs.length c, .string q1, .int .i64 q2, v3, .slice (some ad) ws.length cw, .int .i64 q5, .string q6, .slice AI its.length ci], .slice (some ⟨S, 0, none⟩) sg sg, .slice A5 l50 c5, .int .i64 k, .int .i64 n] W' fun r w' => r = .returned (.slice AL lL cL) ∧ Below W'.heap.size W' w') ∧
                      (∀ W', Below W.heap.size W W' → Calls Try.prog 26 #[.slice AL lL cL, .agg #[.int .i64 y.f0, .int .i64 y.f1, .int .i64 y.f2.f0, .int .i64 y.f2.f1, .string y.f2.f2, .bool y.f2.f3, .string y.f3, .int .i64 y.f4, .string y.f5, .slice B9 y.f6.length b9]] W' fun r w' => r = .returned (.int .i64 (cntX ws y : Nat)) ∧ Below W'.heap.size W' w') ∧
                      (∀ W', Below W.heap.size W W' → Calls Try.prog 28 #[.slice (some ⟨S, 0, none⟩) sg sg, .slice A5 l50 c5, .agg #[.int .i64 y.f0, .int .i64 y.f1, .int .i64 y.f2.f0, .int .i64 y.f2.f1, .string y.f2.f2, .bool y.f2.f3, .string y.f3, .int .i64 y.f4, .string y.f5, .slice B9 y.f6.length b9]] W' fun r w' => r = .returned (.int .i64 (evr : Nat)) ∧ Below W'.heap.size W' w') ∧
                      (tw = 1 → ∃ AB cB, (∀ W', Below W.heap.size W W' → Calls Try.prog 26 #[.slice AB (PL 1 n).length cB, .agg #[.int .i64 y.f0, .int .i64 y.f1, .int .i64 y.f2.f0, .int .i64 y.f2.f1, .string y.f2.f2, .bool y.f2.f3, .string y.f3, .int .i64 y.f4, .string y.f5, .slice B9 y.f6.length b9]] W' fun r w' => r = .returned (.int .i64 (cntX ws y : Nat)) ∧ Below W'.heap.size W' w') ∧ W.cell? ⟨S, n * 7 + 4, none⟩ = some (.slice AB (PL 1 n).length cB)) := by
                    intro W hW
                    have hL := (HL5.out.below hB).below (below_step hB8 hW)
                    have hv := valid_first HA.out HPE.out
                    have hk8 : k < 8 := by rcases hv.1 with ⟨h | h | h, _⟩ | ⟨h, _⟩ | ⟨h, _⟩ <;> omega
                    obtain ⟨AL, cL, hvL, hcL, hCL⟩ := Kd.R_reads (hL.hL k (plI k n) hk8)
                    have hC9W := Kd.C_below HC9.out (below_step (below_step hb7 hb8) hW)
                    have hinp : inP cs y k (plI k n) = true := by unfold inP; rw [HA.out]; simp
                    refine ⟨AL, cL, (PL k (plI k n)).length, fun W' hb => ?_, fun W' hb => ?_, fun W' hb => ?_, fun ht => ?_⟩
                    · have h := listed_any (hL.below hb) A c q1 q2 v3 (.slice (some ad) ws.length cw) q5 q6 (.slice AI its.length ci) h3 rfl rfl (Kd.C_below HC.out (below_step (below_step hBw hbQ8) (below_step hW hb))) HP2.out p1 HP4.out k n hv.1 (by rw [HSG.out]; exact hns)
                      rw [HSG.out, HE5.out, hvL] at h
                      exact h
                    · have h := count_any (PL k (plI k n)) AL cL y B9 b9 W' (Kd.C_below hCL hb) (Kd.C_below hC9W hb)
                      rw [← HPLE.out, cntX_place, hinp, HPLE.out] at h
                      exact h
                    · obtain ⟨A6, c6, hv6, hc6, hC6⟩ := Kd.R_reads (hL.hL 5 0 (by decide))
                      have hR := (hL.below hb).reads p1
                      have hbd : everyX (stagesL cs T U Pl PL) (PL 5 0) y ≤ 1000000000 := by
                        rw [← hevr, hev]
                        have : tw ≤ 1 := by have := twice_le cs y; have := HTWE.out; omega
                        have : cntX ws y * (1 + tw) ≤ 16384 * 2 := Nat.mul_le_mul (by omega) (by omega)
                        omega
                      have e6 : A6 = A5 ∧ c6 = c5 := by
                        have := hv6.symm.trans HE5.out
                        injection this with h1 h2 h3
                        exact ⟨h1, h3⟩
                      obtain ⟨rfl, rfl⟩ := e6
                      have h := everywhere_any (stagesL cs T U Pl PL) (some ⟨S, 0, none⟩) sg (PL 5 0) A6 c6 y B9 b9 W' (by rw [stagesL_len]; exact hR) (Kd.C_below hC6 hb) (Kd.C_below hC9W hb) hbd
                      rw [stagesL_len, HSG.out, HL50.out, ← hevr] at h
                      exact h
                    · obtain ⟨AB, cB, hvB, hcB, hCB⟩ := Kd.R_reads (hL.hL 1 n (by decide))
                      have ht2 : twice cs y = 1 := by rw [← HTWE.out]; exact ht
                      have hk2 : k = 2 := by
                        unfold twice at ht2
                        rw [HA.out] at ht2
                        split at ht2
                        · rename_i h; omega
                        · cases ht2
                      subst hk2
                      refine ⟨AB, cB, fun W' hb => ?_, ?_⟩
                      · have h := count_any (PL 1 n) AB cB y B9 b9 W' (Kd.C_below hCB hb) (Kd.C_below hC9W hb)
                        have hin : inP cs y 1 n = true := by
                          have h1 := inP_ind HA.out 1 n
                          rw [if_pos ht2] at h1
                          cases hi : inP cs y 1 n with
                          | true => rfl
                          | false => rw [hi] at h1; simp [indP] at h1
                        rw [← HPLE.out, cntX_place, hin, HPLE.out] at h
                        exact h
                      · rw [← hvB]
                        exact (hL.hS.cell (i := n * 7 + 4) (by have := hns (by omega); have := HSG.out; omega)).trans (by rw [cellS_at4])
                  have HHALL := Lib.hid hall
                  have HNS := Lib.hid hns
                  obtain ⟨cp, hcp⟩ : ∃ cp, cp = cntX ws y := ⟨_, rfl⟩
                  rw [← hcp] at HC46 HHALL hcpl hev
                  have HCP := Lib.hid hcpl
                  have HEV := Lib.hid hev
                  clear hall hns hcp hcpl hev hevr
                  have hsum : al = 1 + tw + sumN (fun y => 1 + twice cs y) (ws.drop (j + 1)) := by
                    rw [hOj.out, HDR.out, HTWE.out]
                    rfl
                  obtain ⟨al2, hal2⟩ : ∃ al2, al2 = sumN (fun y => 1 + twice cs y) (ws.drop (j + 1)) := ⟨_, rfl⟩
                  rw [← hal2] at hsum
                  have HAL2 := Lib.hid hal2
                  clear hal2
                  rcases hcase with ⟨dk, rfl⟩ | ⟨dk, rfl⟩
                  · go_wp2_with fail
                    refine HC46.out.mono ?_
                    rintro e W9 ⟨rfl, hb9⟩
                    obtain ⟨AL, cL, lL, HHX⟩ := HHALL.out W9 (below_step hBr hb9)
                    have H9 := Lib.hid HHX
                    have hY9 := blk_below hYr hb9
                    have hQ9 := blk_below hQr' hb9
                    have hB9 := below_step (below_step hB8 hBr) hb9
                    clear k0 k1 k2 k3 k4 k5 k6 k7 y0 y1 y2 y3 y4 y5 y6 y7 y8 y9
                    have k0 := (blk_cell hQ9 0).trans rfl
                    have k1 := (blk_cell hQ9 1).trans rfl
                    have k2 := (blk_cell hQ9 2).trans rfl
                    have k3 := (blk_cell hQ9 3).trans rfl
                    have k4 := (blk_cell hQ9 4).trans rfl
                    have k5 := (blk_cell hQ9 5).trans rfl
                    have k6 := (blk_cell hQ9 6).trans rfl
                    have k7 := (blk_cell hQ9 7).trans rfl
                    have y0 := (blk_cell hY9 0).trans rfl
                    have y1 := (blk_cell hY9 1).trans rfl
                    have y2 := (blk_cell hY9 2).trans rfl
                    have y3 := (blk_cell hY9 3).trans rfl
                    have y4 := (blk_cell hY9 4).trans rfl
                    have y5 := (blk_cell hY9 5).trans rfl
                    have y6 := (blk_cell hY9 6).trans rfl
                    have y7 := (blk_cell hY9 7).trans rfl
                    have y8 := (blk_cell hY9 8).trans rfl
                    have y9 := (blk_cell hY9 9).trans rfl
                    have HC27 := Lib.hid H9.out.1
                    have HC26 := Lib.hid H9.out.2.1
                    have HC28 := Lib.hid H9.out.2.2.1
                    have HKeep := Lib.hid (show ∀ w', Below W9.heap.size W9 w' → w'.cell? ⟨w.heap.size, 0, none⟩ = some (.slice A cs.length c) ∧ w'.cell? ⟨w.heap.size, 1, none⟩ = some (.string q1) ∧ w'.cell? ⟨w.heap.size, 2, none⟩ = some (.int .i64 q2) ∧ w'.cell? ⟨w.heap.size, 3, none⟩ = some (v3) ∧ w'.cell? ⟨w.heap.size, 4, none⟩ = some (.slice (some ad) ws.length cw) ∧ w'.cell? ⟨w.heap.size, 5, none⟩ = some (.int .i64 q5) ∧ w'.cell? ⟨w.heap.size, 6, none⟩ = some (.string q6) ∧ w'.cell? ⟨w.heap.size, 7, none⟩ = some (.slice AI its.length ci) ∧ w'.cell? ⟨w3.heap.size, 0, none⟩ = some (.int .i64 y.f0) ∧ w'.cell? ⟨w3.heap.size, 1, none⟩ = some (.int .i64 y.f1) ∧ w'.cell? ⟨w3.heap.size, 2, none⟩ = some (.int .i64 y.f2.f0) ∧ w'.cell? ⟨w3.heap.size, 3, none⟩ = some (.int .i64 y.f2.f1) ∧ w'.cell? ⟨w3.heap.size, 4, none⟩ = some (.string y.f2.f2) ∧ w'.cell? ⟨w3.heap.size, 5, none⟩ = some (.bool y.f2.f3) ∧ w'.cell? ⟨w3.heap.size, 6, none⟩ = some (.string y.f3) ∧ w'.cell? ⟨w3.heap.size, 7, none⟩ = some (.int .i64 y.f4) ∧ w'.cell? ⟨w3.heap.size, 8, none⟩ = some (.string y.f5) ∧ w'.cell? ⟨w3.heap.size, 9, none⟩ = some (.slice B9 y.f6.length b9) from fun w' hb => ⟨pw_cell_below hb k0, pw_cell_below hb k1, pw_cell_below hb k2, pw_cell_below hb k3, pw_cell_below hb k4, pw_cell_below hb k5, pw_cell_below hb k6, pw_cell_below hb k7, pw_cell_below hb y0, pw_cell_below hb y1, pw_cell_below hb y2, pw_cell_below hb y3, pw_cell_below hb y4, pw_cell_below hb y5, pw_cell_below hb y6, pw_cell_below hb y7, pw_cell_below hb y8, pw_cell_below hb y9⟩)
                    clear k0 k1 k2 k3 k4 k5 k6 k7 y0 y1 y2 y3 y4 y5 y6 y7 y8 y9
                    have HSUM := Lib.hid hsum
                    clear hsum
                    go_wp2_with fail
                    refine reg47_0 _ _ _ _ _ _ _ _ _ _ _ _ _ _ _ _ _ _ _ _ _ _ _ _ _ _ _ _ _ _ _ _ _ _ _ _ _ _ _ _ _ _ _ _ _ _ _ _ _ _ _ _ _ _ _ _ _ _ _ _ _ _ _ _ _ _ _ _ _ _ _ _ _ _ _ _ _ _ _ _ _ _ _ _ _ _ _ _ _ _ _ _ _ _ _ _ _ _ _ _ _ _ _ _ _ _ _ _ _ _ _ _ _ _ _ _ _ _ _ _ _ _ _ _ _ _ _ _ _ _ _ _ _ _ _ _ _ _ _ _ _ _ _ _ _ _ _ _ _ _ _ _ _ _ _ _ _ _ _ _ _ _ _ _ _ _ _ _ _ _ _ _ _ _ _ _ _ _ _ _ _ _ _ _ _ _ _ _ _ _ _ _ _ _ _ _ _ _ _ _ _ _ _ _ _ _ _ _ _ _ _ _ _ _ _ _ _ _ _ _ _ _ _ _ _ _ _ _ _ _ _ _ _ _ _ _ _ _ _ _ _ _ _ _ _ _ _ _ _ _ _ _ _ _ _ _ _ _ _ _ _ _ _ _ _ _ _ _ _ _ _ _ _ _ _ _ _ _ _ _ _ (.slice A cs.length c) (.string q1) (.int .i64 q2) (v3) (.slice (some ad) ws.length cw) (.int .i64 q5) (.string q6) (.slice AI its.length ci) (.int .i64 y.f0) (.int .i64 y.f1) (.int .i64 y.f2.f0) (.int .i64 y.f2.f1) (.string y.f2.f2) (.bool y.f2.f3) (.string y.f3) (.int .i64 y.f4) (.string y.f5) (.slice B9 y.f6.length b9) (.slice AL lL cL) cp evr W9 ?_ ?_ ?_ ?_ ?_ ?_ _ ?_
                    · exact HC27
                    · exact HC26
                    · exact HC28
                    · exact Lib.hid (by have := HEV.out; omega)
                    · have := HCP.out; omega
                    · exact HKeep
                    refine Lib.hid (fun v231 v232 v233 v234 v235 v236 v237 v238 v239 v240 v241 v242 v243 v244 v245 v246 v247 v248 v249 v250 v251 v252 v253 v254 v255 v256 v257 v258 v259 v260 v261 v262 v263 v264 v265 v266 v267 v268 v269 v270 v271 v272 v273 v274 v275 wz hbk => ?_)
                    clear HKeep HC27 HC26 HC28 H9 HHX
                    have hBe := below_step hBj (below_step hbn (below_step hb7 (below_step hb8 (below_step hBr (below_step hb9 hbk)))))
                    have hs := HSUM.out
                    go_wp2_with fail
                    go_roundw
                    case rel => exact ⟨j + 1, al2, by omega, by go_num, by go_num, by omega, hBe, HAL2⟩
                    case measure => simp [intOf]; omega
                  · have ht01 : tw = 0 ∨ tw = 1 := by have := twice_le cs y; have := HTWE.out; omega
                    rcases ht01 with rfl | rfl
                    · go_wp2_with fail
                      refine HC46.out.mono ?_
                      rintro e W9 ⟨rfl, hb9⟩
                      obtain ⟨AL, cL, lL, HHX⟩ := HHALL.out W9 (below_step hBr hb9)
                      have H9 := Lib.hid HHX
                      have hY9 := blk_below hYr hb9
                      have hQ9 := blk_below hQr' hb9
                      have hB9 := below_step (below_step hB8 hBr) hb9
                      clear k0 k1 k2 k3 k4 k5 k6 k7 y0 y1 y2 y3 y4 y5 y6 y7 y8 y9
                      have k0 := (blk_cell hQ9 0).trans rfl
                      have k1 := (blk_cell hQ9 1).trans rfl
                      have k2 := (blk_cell hQ9 2).trans rfl
                      have k3 := (blk_cell hQ9 3).trans rfl
                      have k4 := (blk_cell hQ9 4).trans rfl
                      have k5 := (blk_cell hQ9 5).trans rfl
                      have k6 := (blk_cell hQ9 6).trans rfl
                      have k7 := (blk_cell hQ9 7).trans rfl
                      have y0 := (blk_cell hY9 0).trans rfl
                      have y1 := (blk_cell hY9 1).trans rfl
                      have y2 := (blk_cell hY9 2).trans rfl
                      have y3 := (blk_cell hY9 3).trans rfl
                      have y4 := (blk_cell hY9 4).trans rfl
                      have y5 := (blk_cell hY9 5).trans rfl
                      have y6 := (blk_cell hY9 6).trans rfl
                      have y7 := (blk_cell hY9 7).trans rfl
                      have y8 := (blk_cell hY9 8).trans rfl
                      have y9 := (blk_cell hY9 9).trans rfl
                      have HC27 := Lib.hid H9.out.1
                      have HC26 := Lib.hid H9.out.2.1
                      have HC28 := Lib.hid H9.out.2.2.1
                      have HKeep := Lib.hid (show ∀ w', Below W9.heap.size W9 w' → w'.cell? ⟨w.heap.size, 0, none⟩ = some (.slice A cs.length c) ∧ w'.cell? ⟨w.heap.size, 1, none⟩ = some (.string q1) ∧ w'.cell? ⟨w.heap.size, 2, none⟩ = some (.int .i64 q2) ∧ w'.cell? ⟨w.heap.size, 3, none⟩ = some (v3) ∧ w'.cell? ⟨w.heap.size, 4, none⟩ = some (.slice (some ad) ws.length cw) ∧ w'.cell? ⟨w.heap.size, 5, none⟩ = some (.int .i64 q5) ∧ w'.cell? ⟨w.heap.size, 6, none⟩ = some (.string q6) ∧ w'.cell? ⟨w.heap.size, 7, none⟩ = some (.slice AI its.length ci) ∧ w'.cell? ⟨w3.heap.size, 0, none⟩ = some (.int .i64 y.f0) ∧ w'.cell? ⟨w3.heap.size, 1, none⟩ = some (.int .i64 y.f1) ∧ w'.cell? ⟨w3.heap.size, 2, none⟩ = some (.int .i64 y.f2.f0) ∧ w'.cell? ⟨w3.heap.size, 3, none⟩ = some (.int .i64 y.f2.f1) ∧ w'.cell? ⟨w3.heap.size, 4, none⟩ = some (.string y.f2.f2) ∧ w'.cell? ⟨w3.heap.size, 5, none⟩ = some (.bool y.f2.f3) ∧ w'.cell? ⟨w3.heap.size, 6, none⟩ = some (.string y.f3) ∧ w'.cell? ⟨w3.heap.size, 7, none⟩ = some (.int .i64 y.f4) ∧ w'.cell? ⟨w3.heap.size, 8, none⟩ = some (.string y.f5) ∧ w'.cell? ⟨w3.heap.size, 9, none⟩ = some (.slice B9 y.f6.length b9) from fun w' hb => ⟨pw_cell_below hb k0, pw_cell_below hb k1, pw_cell_below hb k2, pw_cell_below hb k3, pw_cell_below hb k4, pw_cell_below hb k5, pw_cell_below hb k6, pw_cell_below hb k7, pw_cell_below hb y0, pw_cell_below hb y1, pw_cell_below hb y2, pw_cell_below hb y3, pw_cell_below hb y4, pw_cell_below hb y5, pw_cell_below hb y6, pw_cell_below hb y7, pw_cell_below hb y8, pw_cell_below hb y9⟩)
                      clear k0 k1 k2 k3 k4 k5 k6 k7 y0 y1 y2 y3 y4 y5 y6 y7 y8 y9
                      have HSUM := Lib.hid hsum
                      clear hsum
                      go_wp2_with fail
                      refine reg47_0 _ _ _ _ _ _ _ _ _ _ _ _ _ _ _ _ _ _ _ _ _ _ _ _ _ _ _ _ _ _ _ _ _ _ _ _ _ _ _ _ _ _ _ _ _ _ _ _ _ _ _ _ _ _ _ _ _ _ _ _ _ _ _ _ _ _ _ _ _ _ _ _ _ _ _ _ _ _ _ _ _ _ _ _ _ _ _ _ _ _ _ _ _ _ _ _ _ _ _ _ _ _ _ _ _ _ _ _ _ _ _ _ _ _ _ _ _ _ _ _ _ _ _ _ _ _ _ _ _ _ _ _ _ _ _ _ _ _ _ _ _ _ _ _ _ _ _ _ _ _ _ _ _ _ _ _ _ _ _ _ _ _ _ _ _ _ _ _ _ _ _ _ _ _ _ _ _ _ _ _ _ _ _ _ _ _ _ _ _ _ _ _ _ _ _ _ _ _ _ _ _ _ _ _ _ _ _ _ _ _ _ _ _ _ _ _ _ _ _ _ _ _ _ _ _ _ _ _ _ _ _ _ _ _ _ _ _ _ _ _ _ _ _ _ _ _ _ _ _ _ _ _ _ _ _ _ _ _ _ _ _ _ _ _ _ _ _ _ _ _ _ _ _ _ _ _ _ _ _ _ _ (.slice A cs.length c) (.string q1) (.int .i64 q2) (v3) (.slice (some ad) ws.length cw) (.int .i64 q5) (.string q6) (.slice AI its.length ci) (.int .i64 y.f0) (.int .i64 y.f1) (.int .i64 y.f2.f0) (.int .i64 y.f2.f1) (.string y.f2.f2) (.bool y.f2.f3) (.string y.f3) (.int .i64 y.f4) (.string y.f5) (.slice B9 y.f6.length b9) (.slice AL lL cL) cp evr W9 ?_ ?_ ?_ ?_ ?_ ?_ _ ?_
                      · exact HC27
                      · exact HC26
                      · exact HC28
                      · exact Lib.hid (by have := HEV.out; omega)
                      · have := HCP.out; omega
                      · exact HKeep
                      refine Lib.hid (fun v231 v232 v233 v234 v235 v236 v237 v238 v239 v240 v241 v242 v243 v244 v245 v246 v247 v248 v249 v250 v251 v252 v253 v254 v255 v256 v257 v258 v259 v260 v261 v262 v263 v264 v265 v266 v267 v268 v269 v270 v271 v272 v273 v274 v275 wz hbk => ?_)
                      clear HKeep HC27 HC26 HC28 H9 HHX
                      have hBe := below_step hBj (below_step hbn (below_step hb7 (below_step hb8 (below_step hBr (below_step hb9 hbk)))))
                      have hs := HSUM.out
                      go_wp2_with fail
                      go_roundw
                      case rel => exact ⟨j + 1, al2, by omega, by go_num, by go_num, by omega, hBe, HAL2⟩
                      case measure => simp [intOf]; omega
                    · go_wp2_with fail
                      refine HC46.out.mono ?_
                      rintro e W9 ⟨rfl, hb9⟩
                      obtain ⟨AL, cL, lL, HHX⟩ := HHALL.out W9 (below_step hBr hb9)
                      have H9 := Lib.hid HHX
                      have hY9 := blk_below hYr hb9
                      have hQ9 := blk_below hQr' hb9
                      have hB9 := below_step (below_step hB8 hBr) hb9
                      clear k0 k1 k2 k3 k4 k5 k6 k7 y0 y1 y2 y3 y4 y5 y6 y7 y8 y9
                      have k0 := (blk_cell hQ9 0).trans rfl
                      have k1 := (blk_cell hQ9 1).trans rfl
                      have k2 := (blk_cell hQ9 2).trans rfl
                      have k3 := (blk_cell hQ9 3).trans rfl
                      have k4 := (blk_cell hQ9 4).trans rfl
                      have k5 := (blk_cell hQ9 5).trans rfl
                      have k6 := (blk_cell hQ9 6).trans rfl
                      have k7 := (blk_cell hQ9 7).trans rfl
                      have y0 := (blk_cell hY9 0).trans rfl
                      have y1 := (blk_cell hY9 1).trans rfl
                      have y2 := (blk_cell hY9 2).trans rfl
                      have y3 := (blk_cell hY9 3).trans rfl
                      have y4 := (blk_cell hY9 4).trans rfl
                      have y5 := (blk_cell hY9 5).trans rfl
                      have y6 := (blk_cell hY9 6).trans rfl
                      have y7 := (blk_cell hY9 7).trans rfl
                      have y8 := (blk_cell hY9 8).trans rfl
                      have y9 := (blk_cell hY9 9).trans rfl
                      have HC27 := Lib.hid H9.out.1
                      have HC26 := Lib.hid H9.out.2.1
                      have HC28 := Lib.hid H9.out.2.2.1
                      obtain ⟨AB, cB, HHB, hcell⟩ := H9.out.2.2.2 (by trivial)
                      have HCB := Lib.hid HHB
                      clear HHB
                      have hnl : n < sg := HNS.out (by have := dk; simp at this; omega)
                      have HKeep := Lib.hid (show ∀ w', Below W9.heap.size W9 w' → w'.cell? ⟨w.heap.size, 0, none⟩ = some (.slice A cs.length c) ∧ w'.cell? ⟨w.heap.size, 1, none⟩ = some (.string q1) ∧ w'.cell? ⟨w.heap.size, 2, none⟩ = some (.int .i64 q2) ∧ w'.cell? ⟨w.heap.size, 3, none⟩ = some (v3) ∧ w'.cell? ⟨w.heap.size, 4, none⟩ = some (.slice (some ad) ws.length cw) ∧ w'.cell? ⟨w.heap.size, 5, none⟩ = some (.int .i64 q5) ∧ w'.cell? ⟨w.heap.size, 6, none⟩ = some (.string q6) ∧ w'.cell? ⟨w.heap.size, 7, none⟩ = some (.slice AI its.length ci) ∧ w'.cell? ⟨w3.heap.size, 0, none⟩ = some (.int .i64 y.f0) ∧ w'.cell? ⟨w3.heap.size, 1, none⟩ = some (.int .i64 y.f1) ∧ w'.cell? ⟨w3.heap.size, 2, none⟩ = some (.int .i64 y.f2.f0) ∧ w'.cell? ⟨w3.heap.size, 3, none⟩ = some (.int .i64 y.f2.f1) ∧ w'.cell? ⟨w3.heap.size, 4, none⟩ = some (.string y.f2.f2) ∧ w'.cell? ⟨w3.heap.size, 5, none⟩ = some (.bool y.f2.f3) ∧ w'.cell? ⟨w3.heap.size, 6, none⟩ = some (.string y.f3) ∧ w'.cell? ⟨w3.heap.size, 7, none⟩ = some (.int .i64 y.f4) ∧ w'.cell? ⟨w3.heap.size, 8, none⟩ = some (.string y.f5) ∧ w'.cell? ⟨w3.heap.size, 9, none⟩ = some (.slice B9 y.f6.length b9) ∧ w'.cell? ⟨S, n * 7 + 4, none⟩ = some (.slice AB (PL 1 n).length cB) from fun w' hb => ⟨pw_cell_below hb k0, pw_cell_below hb k1, pw_cell_below hb k2, pw_cell_below hb k3, pw_cell_below hb k4, pw_cell_below hb k5, pw_cell_below hb k6, pw_cell_below hb k7, pw_cell_below hb y0, pw_cell_below hb y1, pw_cell_below hb y2, pw_cell_below hb y3, pw_cell_below hb y4, pw_cell_below hb y5, pw_cell_below hb y6, pw_cell_below hb y7, pw_cell_below hb y8, pw_cell_below hb y9, pw_cell_below hb hcell⟩)
                      clear k0 k1 k2 k3 k4 k5 k6 k7 y0 y1 y2 y3 y4 y5 y6 y7 y8 y9
                      have HSUM := Lib.hid hsum
                      clear hsum
                      go_wp2_with fail
                      refine reg47_1 _ _ _ _ _ _ _ _ _ _ _ _ _ _ _ _ _ _ _ _ _ _ _ _ _ _ _ _ _ _ _ _ _ _ _ _ _ _ _ _ _ _ _ _ _ _ _ _ _ _ _ _ _ _ _ _ _ _ _ _ _ _ _ _ _ _ _ _ _ _ _ _ _ _ _ _ _ _ _ _ _ _ _ _ _ _ _ _ _ _ _ _ _ _ _ _ _ _ _ _ _ _ _ _ _ _ _ _ _ _ _ _ _ _ _ _ _ _ _ _ _ _ _ _ _ _ _ _ _ _ _ _ _ _ _ _ _ _ _ _ _ _ _ _ _ _ _ _ _ _ _ _ _ _ _ _ _ _ _ _ _ _ _ _ _ _ _ _ _ _ _ _ _ _ _ _ _ _ _ _ _ _ _ _ _ _ _ _ _ _ _ _ _ _ _ _ _ _ _ _ _ _ _ _ _ _ _ _ _ _ _ _ _ _ _ _ _ _ _ _ _ _ _ _ _ _ _ _ _ _ _ _ _ _ _ _ _ _ _ _ _ _ _ _ _ _ _ _ _ _ _ _ _ _ _ _ _ _ _ _ _ _ _ _ _ _ _ _ _ _ _ _ _ _ _ _ _ _ _ (.slice A cs.length c) (.string q1) (.int .i64 q2) (v3) (.slice (some ad) ws.length cw) (.int .i64 q5) (.string q6) (.slice AI its.length ci) (.int .i64 y.f0) (.int .i64 y.f1) (.int .i64 y.f2.f0) (.int .i64 y.f2.f1) (.string y.f2.f2) (.bool y.f2.f3) (.string y.f3) (.int .i64 y.f4) (.string y.f5) (.slice B9 y.f6.length b9) (.slice AL lL cL) (.slice AB (PL 1 n).length cB) cp evr S sg n W9 ?_ ?_ ?_ ?_ ?_ ?_ ?_ ?_ ?_ _ ?_
                      · exact HC27
                      · exact HC26
                      · exact HC28
                      · exact HCB
                      · exact hnl
                      · omega
                      · exact Lib.hid (by have := HEV.out; omega)
                      · have := HCP.out; omega
                      · exact HKeep
                      refine Lib.hid (fun v231 v232 v233 v234 v235 v236 v237 v238 v239 v240 v241 v242 v243 v244 v245 v246 v247 v248 v249 v250 v251 v252 v253 v254 v255 v256 v257 v258 v259 v260 v261 v262 v263 v264 v265 v266 v267 v268 v269 v270 v271 v272 v273 v274 v275 wz hbk => ?_)
                      clear HKeep HC27 HC26 HC28 H9 HHX
                      have hBe := below_step hBj (below_step hbn (below_step hb7 (below_step hb8 (below_step hBr (below_step hb9 hbk)))))
                      have hs := HSUM.out
                      go_wp2_with fail
                      go_roundw
                      case rel => exact ⟨j + 1, al2, by omega, by go_num, by go_num, by omega, hBe, HAL2⟩
                      case measure => simp [intOf]; omega
            · obtain rfl : j = ws.length := by omega
              have hz : al = 0 := by rw [hOj.out, List.drop_length]; rfl
              subst hz
              go_wp2_with fail
              go_ret
              exact ⟨rfl, hBw⟩
end Go.Proofs.Ytgnifglolbfamaa
