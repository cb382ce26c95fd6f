/- The walk of the law PlaceMoments, where a condition's kind of place is 5 (printed by a program). -/
import Derived.Test.YtgnifglolbfamaaPmF
set_option linter.unusedVariables false
set_option linter.unusedSimpArgs false
namespace Go.Proofs.Ytgnifglolbfamaa
open Go.RowKit Go.Proofs.YtgnifglolbfamaaW.PrintWords

set_option maxHeartbeats 8000000 in
set_option maxRecDepth 100000 in
theorem moments_5 (hbegun : ∀ w : World, Calls Try.prog 8 #[] w (True_ w)) (cs : List Cp) (A : Option Addr) (c : Nat) (q1 : ByteArray) (q2 : Int) (v3 : Value) (ws : List Ex) (AW : Option Addr) (cw : Nat) (q5 : Int) (q6 : ByteArray) (its : List It) (AI : Option Addr) (ci : Nat) (h3 : v3.oneCell' = true) (x : Ex) (B : Option Addr) (cb : Nat) (w : World)
    (hc : cs.length ≤ c) (hC : kCp.C w A cs.length cs) (hW : kEx.C w AW ws.length ws) (hI : kIt.C w AI its.length its) (hnm : ∀ x ∈ cs, x.f3.size ≤ maxLen) (hnr : ∀ r ∈ refsOf x, r.f0.size ≤ maxLen) (hcase : (anchorTop cs (refsOf x)).2.2 = 0 → (anchorTop cs (refsOf x)).1 = 5) (hcb : x.f6.length ≤ cb) (hCx : kEx.C w B x.f6.length x.f6) :
    Calls Try.prog 3 #[.agg #[.slice A cs.length c, .string q1, .int .i64 q2, v3, .slice AW ws.length cw, .int .i64 q5, .string q6, .slice AI its.length ci], exV x (.slice B x.f6.length cb)] w (True_ w) := by
  have hmx := hC.2.1
  have h1 := below_new w (.cells #[.slice A cs.length c, .string q1, .int .i64 q2, v3, .slice AW ws.length cw, .int .i64 q5, .string q6, .slice AI its.length ci] 27)
  have hb2 := below_step h1 (below_new _ (.cells #[.int .i64 x.f0, .int .i64 x.f1, .int .i64 x.f2.f0, .int .i64 x.f2.f1, .string x.f2.f2, .bool x.f2.f3, .string x.f3, .int .i64 x.f4, .string x.f5, .slice B x.f6.length cb] 31))
  have hQ := blk_below (blk_new w (.cells #[.slice A cs.length c, .string q1, .int .i64 q2, v3, .slice AW ws.length cw, .int .i64 q5, .string q6, .slice AI its.length ci] 27)) (below_new _ (.cells #[.int .i64 x.f0, .int .i64 x.f1, .int .i64 x.f2.f0, .int .i64 x.f2.f1, .string x.f2.f2, .bool x.f2.f3, .string x.f3, .int .i64 x.f4, .string x.f5, .slice B x.f6.length cb] 31))
  have hX := blk_new (w.alloc (.cells #[.slice A cs.length c, .string q1, .int .i64 q2, v3, .slice AW ws.length cw, .int .i64 q5, .string q6, .slice AI its.length ci] 27)) (.cells #[.int .i64 x.f0, .int .i64 x.f1, .int .i64 x.f2.f0, .int .i64 x.f2.f1, .string x.f2.f2, .bool x.f2.f3, .string x.f3, .int .i64 x.f4, .string x.f5, .slice B x.f6.length cb] 31)
  rw [alloc_size'] at hX
  have HC := Lib.hid hC
  have HWW := Lib.hid hW
  have HI := Lib.hid hI
  have HCX := Lib.hid hCx
  have HNM := Lib.hid hnm
  have HNR := Lib.hid hnr
  have HHC := Lib.hid hc
  have HHB := Lib.hid hcb
  clear hC hW hI hCx hnm hnr hc hcb h1
  unfold exV
  go_enter Try.func3, Try.ntmps3
  go_wp2_with fail
  generalize (w.alloc (.cells #[.slice A cs.length c, .string q1, .int .i64 q2, v3, .slice AW ws.length cw, .int .i64 q5, .string q6, .slice AI its.length ci] 27)).alloc (.cells #[.int .i64 x.f0, .int .i64 x.f1, .int .i64 x.f2.f0, .int .i64 x.f2.f1, .string x.f2.f2, .bool x.f2.f3, .string x.f3, .int .i64 x.f4, .string x.f5, .slice B x.f6.length cb] 31) = W1 at *
  refine (hbegun W1).mono ?_
  rintro e W2 ⟨rfl, hbw2⟩
  have hB2 := below_step hb2 hbw2
  have hQ2 := blk_below hQ hbw2
  have hX2 := blk_below hX hbw2
  have k0 := (blk_cell hQ2 0).trans rfl
  have k1 := (blk_cell hQ2 1).trans rfl
  have k2 := (blk_cell hQ2 2).trans rfl
  have k3 := (blk_cell hQ2 3).trans rfl
  have k4 := (blk_cell hQ2 4).trans rfl
  have k5 := (blk_cell hQ2 5).trans rfl
  have k6 := (blk_cell hQ2 6).trans rfl
  have k7 := (blk_cell hQ2 7).trans rfl
  have HQC := Lib.hid (heavyQuery_any (.slice A cs.length c) q1 q2 v3 ws AW cw q5 q6 its AI ci rfl h3 W2 (Kd.C_below HWW.out hB2) (Kd.C_below HI.out hB2))
  obtain ⟨hq, hhq⟩ : ∃ hq, hq = decide (16384 < itN its + exNL ws) := ⟨_, rfl⟩
  rw [← hhq] at HQC
  clear hhq
  go_wp2_with fail
  refine HQC.out.mono ?_
  rintro e W3 ⟨rfl, hb3⟩
  have hB3 := below_step hB2 hb3
  cases hq with
  | true =>
    go_wp2_with fail
    go_ret
    exact ⟨rfl, hB3⟩
  | false =>
    have hX3 := blk_below hX2 hb3
    have y0 := (blk_cell hX3 0).trans rfl
    have y1 := (blk_cell hX3 1).trans rfl
    have y2 := (blk_cell hX3 2).trans rfl
    have y3 := (blk_cell hX3 3).trans rfl
    have y4 := (blk_cell hX3 4).trans rfl
    have y5 := (blk_cell hX3 5).trans rfl
    have y6 := (blk_cell hX3 6).trans rfl
    have y7 := (blk_cell hX3 7).trans rfl
    have y8 := (blk_cell hX3 8).trans rfl
    have y9 := (blk_cell hX3 9).trans rfl
    have hL := blk_new W3 (.cells #[.int .i64 x.f0, .int .i64 x.f1, .int .i64 x.f2.f0, .int .i64 x.f2.f1, .string x.f2.f2, .bool x.f2.f3, .string x.f3, .int .i64 x.f4, .string x.f5, .slice B x.f6.length cb] 31)
    have hbl := below_new W3 (.cells #[.int .i64 x.f0, .int .i64 x.f1, .int .i64 x.f2.f0, .int .i64 x.f2.f1, .string x.f2.f2, .bool x.f2.f3, .string x.f3, .int .i64 x.f4, .string x.f5, .slice B x.f6.length cb] 31)
    have hC1 := reads_lit (d := kEx) (xs := [x]) (n := 1) hL rfl (Reps.snoc (Reps.none _ _) (kEx_mk _ x HHB.out (Kd.C_below HCX.out (below_step hB3 hbl))) rfl) (by decide) (by simp)
    have HHV := Lib.hid (heavy_any [x] (some ⟨W3.heap.size, 0, none⟩) 1 16384 _ (by decide) (by decide) hC1)
    obtain ⟨hh, hhh⟩ : ∃ hh, hh = decide ((16384 : Int) < exNL [x]) := ⟨_, rfl⟩
    rw [← hhh] at HHV
    have HHH := Lib.hid hhh
    clear hhh hC1 hL
    have hX4 := blk_below hX3 hbl
    have hQ4 := blk_below (blk_below hQ2 hb3) hbl
    have hB4 := below_step hB3 hbl
    go_wp2_with fail
    generalize W3.alloc (.cells #[.int .i64 x.f0, .int .i64 x.f1, .int .i64 x.f2.f0, .int .i64 x.f2.f1, .string x.f2.f2, .bool x.f2.f3, .string x.f3, .int .i64 x.f4, .string x.f5, .slice B x.f6.length cb] 31) = W4 at *
    refine HHV.out.mono ?_
    rintro e W5 ⟨rfl, hb5⟩
    have hB5 := below_step hB4 hb5
    cases hh with
    | true =>
      go_wp2_with fail
      go_ret
      exact ⟨rfl, hB5⟩
    | false =>
      have hN : exN x ≤ 16384 := by
        have h := of_decide_eq_false HHH.out.symm
        have e : exNL [x] = exN x := by simp [exNL]
        rw [e] at h
        omega
      have hX5 := blk_below hX4 hb5
      have hQ5 := blk_below hQ4 hb5
      have k0 := (blk_cell hQ5 0).trans rfl
      have k1 := (blk_cell hQ5 1).trans rfl
      have k2 := (blk_cell hQ5 2).trans rfl
      have k3 := (blk_cell hQ5 3).trans rfl
      have k4 := (blk_cell hQ5 4).trans rfl
      have k5 := (blk_cell hQ5 5).trans rfl
      have k6 := (blk_cell hQ5 6).trans rfl
      have k7 := (blk_cell hQ5 7).trans rfl
      have y0 := (blk_cell hX5 0).trans rfl
      have y1 := (blk_cell hX5 1).trans rfl
      have y2 := (blk_cell hX5 2).trans rfl
      have y3 := (blk_cell hX5 3).trans rfl
      have y4 := (blk_cell hX5 4).trans rfl
      have y5 := (blk_cell hX5 5).trans rfl
      have y6 := (blk_cell hX5 6).trans rfl
      have y7 := (blk_cell hX5 7).trans rfl
      have y8 := (blk_cell hX5 8).trans rfl
      have y9 := (blk_cell hX5 9).trans rfl
      have hanc := Anchor_any cs A c q1 q2 v3 (.slice AW ws.length cw) q5 q6 (.slice AI its.length ci) h3 rfl rfl x B cb W5 HHC.out (Kd.C_below HC.out hB5) HNM.out HNR.out (by omega) HHB.out (Kd.C_below HCX.out hB5)
      obtain ⟨an, han⟩ : ∃ an, an = anchorTop cs (refsOf x) := ⟨_, rfl⟩
      unfold MixPost exV at hanc
      rw [← han] at hanc
      have HAN := Lib.hid han
      have HANC := Lib.hid hanc
      have HNX := Lib.hid hN
      clear han hanc hN
      obtain ⟨a1, a2, a3⟩ := an
      go_wp2_with fail
      refine HANC.out.mono ?_
      rintro e W6 ⟨hb6, rfl⟩
      have hB6 := below_step hB5 hb6
      by_cases hf : a3 = 0
      · subst hf
        have hX6 := blk_below hX5 hb6
        have hQ6 := blk_below hQ5 hb6
        have y0 := (blk_cell hX6 0).trans rfl
        have y1 := (blk_cell hX6 1).trans rfl
        have y2 := (blk_cell hX6 2).trans rfl
        have y3 := (blk_cell hX6 3).trans rfl
        have y4 := (blk_cell hX6 4).trans rfl
        have y5 := (blk_cell hX6 5).trans rfl
        have y6 := (blk_cell hX6 6).trans rfl
        have y7 := (blk_cell hX6 7).trans rfl
        have y8 := (blk_cell hX6 8).trans rfl
        have y9 := (blk_cell hX6 9).trans rfl
        obtain ⟨hpe, hao⟩ := anchorTop_ok HAN.out.symm
        obtain ⟨k, n, rfl, rfl, hsome, hlaw⟩ := anchor_law hao hpe
        obtain ⟨p0, p1, p2, p3, p4⟩ := patErr_parts hpe
        have HCASE := Lib.hid (show (k : Int) = 5 by have h := hcase; rw [← HAN.out] at h; exact h rfl)
        have HLAW := Lib.hid hlaw
        have HSOME := Lib.hid hsome
        have hrf := refs_any x B cb W6 (by have := HNX.out; omega) HHB.out (Kd.C_below HCX.out hB6)
        have hrl := Nat.le_trans (spk_len x) (show exN x ≤ 16384 from HNX.out)
        have hrl2 : (refsOf x).length ≤ 16384 := by unfold refsOf; rw [List.length_map]; exact hrl
        unfold exV at hrf
        generalize refsOf x = rs at *
        have HRF := Lib.hid hrf
        clear hrf hlaw hsome hao hpe p2 p3 p4 hrl
        go_wp2_with fail
        refine HRF.out.mono ?_
        rintro e W7 ⟨hb7, v7, rfl, hr7⟩
        obtain ⟨AR, cR, rfl, hcR, hCR⟩ := Kd.R_reads hr7
        have HCR := Lib.hid hCR
        have hB7 := below_step hB6 hb7
        have HQ7 := Lib.hid (blk_below hQ6 hb7)
        have HC7 := Lib.hid (Kd.C_below HC.out hB7)
        clear hr7 hCR hX hX2 hX3 hX4 hX5 hX6 hQ hQ2 hQ4 hQ5 hQ6 y0 y1 y2 y3 y4 y5 y6 y7 y8 y9 k0 k1 k2 k3 k4 k5 k6 k7
        go_wp2_with fail
        go_loopw [10] (fun t10 wr => ∃ j : Nat, j ≤ rs.length ∧ t10 = .int .i64 j ∧ Below W7.heap.size W7 wr) (fun t10 _ => rs.length - (intOf t10).toNat)
        case atStart => exact ⟨0, by omega, rfl, Below.refl _ _⟩
        case round =>
          obtain ⟨j, hj, rfl, hB⟩ := hrel
          by_cases hlt : j < rs.length
          · have i1 : (0 : Int) ≤ (j : Int) := by omega
            have i2 : (j : Int) < rs.length := by omega
            obtain ⟨ad, rfl, e0, e1, e2, e3⟩ := atRfN (Kd.C_below HCR.out hB) j hlt hlt
            have hmem : rs[j] ∈ rs := List.getElem_mem hlt
            have hT := List.take_succ_eq_append_getElem hlt
            generalize rs[j] = r at *
            have HT := Lib.hid hT
            clear hT
            have HVS := Lib.hid (HSOME.out r hmem)
            have HMEM := Lib.hid hmem
            obtain ⟨i, hi⟩ := Option.isSome_iff_exists.1 (HSOME.out r hmem)
            obtain ⟨hi0, hi1⟩ := vix_bound _ _ _ hi
            have HCI := Lib.hid (show cix cs r = i by unfold cix; rw [hi]; rfl)
            clear hmem
            have HQr := Lib.hid (blk_below HQ7.out hB)
            have HCO := Lib.hid (comp_any cs A c q1 q2 v3 (.slice AW ws.length cw) q5 q6 (.slice AI its.length ci) h3 rfl rfl r.f0 wr.drew (Kd.C_below HC7.out (below_drew hB)))
            rw [hi] at HCO
            skip
            clear hi
            have k0 := (blk_cell HQr.out 0).trans rfl
            have k1 := (blk_cell HQr.out 1).trans rfl
            have k2 := (blk_cell HQr.out 2).trans rfl
            have k3 := (blk_cell HQr.out 3).trans rfl
            have k4 := (blk_cell HQr.out 4).trans rfl
            have k5 := (blk_cell HQr.out 5).trans rfl
            have k6 := (blk_cell HQr.out 6).trans rfl
            have k7 := (blk_cell HQr.out 7).trans rfl
            go_wp2_with fail
            go_still_tail 6, (by kernel_rfl)
            change wpList _ _ _ _ _ wr.drew
            have hBd := below_drew hB
            have hbd := below_drew (Below.refl wr.heap.size wr)
            generalize wr.drew = wd at *
            go_wp2_with fail
            refine HCO.out.mono ?_
            rintro e w3 ⟨rfl, hb3⟩
            have hB3 := below_step hBd hb3
            simp only [Option.getD_some]
            have d1 : decide (i < 0) = false := by simp; omega
            go_wp2_with fail
            go_roundw
            case rel => exact ⟨j + 1, by omega, by go_num, hB3⟩
            case measure => simp [intOf]; omega
          · have hHQ := blk_below HQ7.out hB
            have k0 := (blk_cell (hHQ) 0).trans rfl
            have k1 := (blk_cell (hHQ) 1).trans rfl
            have k2 := (blk_cell (hHQ) 2).trans rfl
            have k3 := (blk_cell (hHQ) 3).trans rfl
            have k4 := (blk_cell (hHQ) 4).trans rfl
            have k5 := (blk_cell (hHQ) 5).trans rfl
            have k6 := (blk_cell (hHQ) 6).trans rfl
            have k7 := (blk_cell (hHQ) 7).trans rfl
            have HST := Lib.hid (stage_any cs A c q1 q2 v3 (.slice AW ws.length cw) q5 q6 (.slice AI its.length ci) h3 rfl rfl cs.length (Nat.le_refl _) wr (Kd.C_below HC7.out hB))
            rw [List.take_length] at HST
            go_wp2_with fail
            refine HST.out.mono ?_
            rintro e W8 ⟨rfl, hb8⟩
            have hB8 := below_step hB hb8
            have hHQ8 := blk_below hHQ hb8
            have HW8 := Lib.hid hB8
            clear hHQ k0 k1 k2 k3 k4 k5 k6 k7
            rcases HLAW.out with ⟨hk, hlaw⟩ | ⟨rfl, hlaw⟩ | ⟨rfl, hlaw⟩
            · rcases hk with rfl | rfl | rfl
              · exact absurd HCASE.out (by decide)
              · exact absurd HCASE.out (by decide)
              · have hst := stg_len cs
                have hM : ((2 * n + if 5 = 1 then 0 else 1 : Int)) = 2 * (n : Int) + 1 := by simp
                have hall := hlaw.all
                have hearly := hlaw.early
                have hlt2 := hlaw.lt
                have hfin := hlaw.fin
                rw [hM] at hall hearly hfin
                have hM1 : (2 * (n : Int) + 1 - 1 : Int) = 2 * (n : Int) := by omega
                rw [hM1] at hearly
                clear hM1
                have hw1 : IntKind.i64.wrap (2 * (n : Int) + 1 - 1) = 2 * (n : Int) := (congrArg IntKind.i64.wrap (show (2 * (n : Int) + 1 - 1 : Int) = 2 * (n : Int) by omega)).trans (IntWalk.i64_in _ (by omega))
                have hw2 : IntKind.i64.wrap (2 * (n : Int)) = 2 * (n : Int) := IntWalk.i64_in _ (by omega)
                have HALL := Lib.hid hall
                have HEARLY := Lib.hid hearly
                have d1 : decide ((n : Int) < 0) = false := decide_eq_false (by omega)
                have d2 : decide ((n : Int) ≥ (stg cs : Int)) = false := decide_eq_false (by omega)
                have d3 : (2 * (n : Int) + 1 == 2 * (stg cs : Int) - 1) = true := by
                  have := hfin.1 rfl; rw [beq_iff_eq]; omega
                have HF := Lib.hid hfin
                clear hfin hall hearly hlaw hM
                generalize hsg : stg cs = sg at *
                have HSG := Lib.hid hsg
                clear hsg
                go_upto_region 27 with fail
                go_cut [13, 14, 15] from 24 to 99 (fun t13 t14 t15 wx => t15 = .int .i64 0 ∧ t13 = .bool true ∧ (∃ e, t14 = .bool e ∧ Hid (e = decide (0 < 2 * (n : Int) + 1))) ∧ wx = W8)
                case first =>
                  go_wp2_with fail
                  go_meet
                  exact ⟨rfl, rfl, ⟨_, rfl, Lib.hid (by first | rfl | simp)⟩, rfl⟩
                case rest =>
                  obtain ⟨rfl, rfl, ⟨ez, rfl, HE0⟩, hwc⟩ := hcut
                  replace hwc := hwc.symm
                  subst hwc
                  go_wp2_with fail
                  go_loopw [13, 14, 15] (fun t13 t14 t15 wr => ∃ (j : Nat) (eb : Bool), j ≤ rs.length ∧ t15 = .int .i64 j ∧ t13 = .bool true ∧ t14 = .bool eb ∧ Below W8.heap.size W8 wr ∧ Hid (eb = (decide (0 < 2 * (n : Int) + 1) && (rs.take j).all (fun r => boundB cs r (2 * (n : Int)))))) (fun _ _ t15 _ => rs.length - (intOf t15).toNat)
                  case atStart => exact ⟨0, ez, by omega, rfl, rfl, rfl, Below.refl _ _, Lib.hid (by rw [HE0.out, List.take_zero, List.all_nil, Bool.and_true])⟩
                  case round =>
                    obtain ⟨j, eb, hj, rfl, rfl, rfl, hB8', hO⟩ := hrel
                    have hB := below_step HW8.out hB8'
                    by_cases hlt : j < rs.length
                    · have i1 : (0 : Int) ≤ (j : Int) := by omega
                      have i2 : (j : Int) < rs.length := by omega
                      obtain ⟨ad, rfl, e0, e1, e2, e3⟩ := atRfN (Kd.C_below HCR.out hB) j hlt hlt
                      have hmem : rs[j] ∈ rs := List.getElem_mem hlt
                      have hT := List.take_succ_eq_append_getElem hlt
                      generalize rs[j] = r at *
                      have HT := Lib.hid hT
                      clear hT
                      have HVS := Lib.hid (HSOME.out r hmem)
                      have HMEM := Lib.hid hmem
                      obtain ⟨i, hi⟩ := Option.isSome_iff_exists.1 (HSOME.out r hmem)
                      obtain ⟨hi0, hi1⟩ := vix_bound _ _ _ hi
                      have HCI := Lib.hid (show cix cs r = i by unfold cix; rw [hi]; rfl)
                      clear hmem
                      have hrr := HALL.out r HMEM.out
                      obtain ⟨iN, rfl⟩ := Int.eq_ofNat_of_zero_le hi0
                      obtain ⟨ac, rfl, c0, c1, c2, c3⟩ := atCpN (Kd.C_below HC7.out hB) iN (by omega) (by omega)
                      have hng : cs[iN].f0 = false := by
                        have := hrr.2.2
                        unfold ngR negAt at this
                        rw [HCI.out, Int.toNat_natCast, List.getD_eq_getElem?_getD, List.getElem?_eq_getElem (by omega)] at this
                        exact this
                      rw [hng] at c0
                      have hit := hrr.2.1
                      unfold itR iterAt at hit
                      simp only [Bool.or_eq_false_iff] at hit
                      obtain ⟨⟨f2, f3⟩, f7⟩ := hit
                      have b2 : (r.f1 != 2) = true := by simp [bne, f2]
                      have b3 : (r.f1 != 3) = true := by simp [bne, f3]
                      have b7 : (r.f1 != 7) = true := by simp [bne, f7]
                      clear c1 c2 c3 hng f2 f3 f7
                      have HBD := Lib.hid (fun (W : World) (hb : Below wr.heap.size wr W) => bound_any cs (some ac) c q1 q2 v3 (.slice AW ws.length cw) q5 q6 (.slice AI its.length ci) h3 rfl rfl r (2 * (n : Int) + 1) W HVS.out p1 (Kd.C_below (Kd.C_below HC7.out hB) hb))
                      rw [hrr.1] at HBD
                      have HCO := Lib.hid (fun (W : World) (hb : Below wr.heap.size wr W) => comp_any cs (some ac) c q1 q2 v3 (.slice AW ws.length cw) q5 q6 (.slice AI its.length ci) h3 rfl rfl r.f0 W (Kd.C_below (Kd.C_below HC7.out hB) hb))
                      rw [hi] at HCO
                      simp only [Option.getD_some] at HCO
                      obtain ⟨eb2, heb2⟩ : ∃ b, b = boundB cs r (2 * (n : Int)) := ⟨_, rfl⟩
                      have HBE := Lib.hid (fun (W : World) (hb : Below wr.heap.size wr W) => bound_any cs (some ac) c q1 q2 v3 (.slice AW ws.length cw) q5 q6 (.slice AI its.length ci) h3 rfl rfl r (2 * (n : Int)) W HVS.out p1 (Kd.C_below (Kd.C_below HC7.out hB) hb))
                      rw [← heb2] at HBE
                      have HO2 := Lib.hid (show (eb && eb2) = (decide (0 < 2 * (n : Int) + 1) && (rs.take (j + 1)).all (fun r => boundB cs r (2 * (n : Int)))) by rw [HT.out, List.all_append, hO.out, heb2, Bool.and_assoc]; simp)
                      have HHI := Lib.hid hi
                      clear hrr hi heb2
                      have HQr := Lib.hid (blk_below HQ7.out hB)
                      have k0 := (blk_cell HQr.out 0).trans rfl
                      have k1 := (blk_cell HQr.out 1).trans rfl
                      have k2 := (blk_cell HQr.out 2).trans rfl
                      have k3 := (blk_cell HQr.out 3).trans rfl
                      have k4 := (blk_cell HQr.out 4).trans rfl
                      have k5 := (blk_cell HQr.out 5).trans rfl
                      have k6 := (blk_cell HQr.out 6).trans rfl
                      have k7 := (blk_cell HQr.out 7).trans rfl
                      have i3 : (0 : Int) ≤ (iN : Int) := by omega
                      have i4 : (iN : Int) < (cs.length : Int) := by omega
                      have HKeep := Lib.hid (show ∀ w', Below wr.heap.size wr w' → w'.cell? ⟨w.heap.size, 0, none⟩ = some (.slice (some ac) cs.length c) ∧ w'.cell? ⟨w.heap.size, 1, none⟩ = some (.string q1) ∧ w'.cell? ⟨w.heap.size, 2, none⟩ = some (.int .i64 q2) ∧ w'.cell? ⟨w.heap.size, 3, none⟩ = some (v3) ∧ w'.cell? ⟨w.heap.size, 4, none⟩ = some (.slice AW ws.length cw) ∧ w'.cell? ⟨w.heap.size, 5, none⟩ = some (.int .i64 q5) ∧ w'.cell? ⟨w.heap.size, 6, none⟩ = some (.string q6) ∧ w'.cell? ⟨w.heap.size, 7, none⟩ = some (.slice AI its.length ci) ∧ w'.cell? (ad.add (j * 4)) = some (.string r.f0) ∧ w'.cell? ⟨(ad.add (j * 4)).block, (ad.add (j * 4)).off + 1, none⟩ = some (.int .i64 r.f1) ∧ w'.cell? ⟨(ad.add (j * 4)).block, (ad.add (j * 4)).off + 2, none⟩ = some (.string r.f2) ∧ w'.cell? ⟨(ad.add (j * 4)).block, (ad.add (j * 4)).off + 3, none⟩ = some (.int .i64 r.f3) ∧ w'.cell? (ac.add (iN * 4)) = some (.bool false) from fun w' hb => ⟨pw_cell_below hb k0, pw_cell_below hb k1, pw_cell_below hb k2, pw_cell_below hb k3, pw_cell_below hb k4, pw_cell_below hb k5, pw_cell_below hb k6, pw_cell_below hb k7, pw_cell_below hb e0, pw_cell_below hb e1, pw_cell_below hb e2, pw_cell_below hb e3, pw_cell_below hb c0⟩)
                      have HKeep2 := Lib.hid (show ∀ w', Below wr.heap.size wr w' → w'.cell? ⟨w.heap.size, 0, none⟩ = some (.slice (some ac) cs.length c) ∧ w'.cell? ⟨w.heap.size, 1, none⟩ = some (.string q1) ∧ w'.cell? ⟨w.heap.size, 2, none⟩ = some (.int .i64 q2) ∧ w'.cell? ⟨w.heap.size, 3, none⟩ = some (v3) ∧ w'.cell? ⟨w.heap.size, 4, none⟩ = some (.slice AW ws.length cw) ∧ w'.cell? ⟨w.heap.size, 5, none⟩ = some (.int .i64 q5) ∧ w'.cell? ⟨w.heap.size, 6, none⟩ = some (.string q6) ∧ w'.cell? ⟨w.heap.size, 7, none⟩ = some (.slice AI its.length ci) ∧ w'.cell? (ad.add (j * 4)) = some (.string r.f0) ∧ w'.cell? ⟨(ad.add (j * 4)).block, (ad.add (j * 4)).off + 1, none⟩ = some (.int .i64 r.f1) ∧ w'.cell? ⟨(ad.add (j * 4)).block, (ad.add (j * 4)).off + 2, none⟩ = some (.string r.f2) ∧ w'.cell? ⟨(ad.add (j * 4)).block, (ad.add (j * 4)).off + 3, none⟩ = some (.int .i64 r.f3) from fun w' hb => ⟨pw_cell_below hb k0, pw_cell_below hb k1, pw_cell_below hb k2, pw_cell_below hb k3, pw_cell_below hb k4, pw_cell_below hb k5, pw_cell_below hb k6, pw_cell_below hb k7, pw_cell_below hb e0, pw_cell_below hb e1, pw_cell_below hb e2, pw_cell_below hb e3⟩)
                      go_wp2_with fail
                      go_region_held3 (fun w' => w'.cell? ⟨w.heap.size, 0, none⟩ = some (.slice (some ac) cs.length c) ∧ w'.cell? ⟨w.heap.size, 1, none⟩ = some (.string q1) ∧ w'.cell? ⟨w.heap.size, 2, none⟩ = some (.int .i64 q2) ∧ w'.cell? ⟨w.heap.size, 3, none⟩ = some (v3) ∧ w'.cell? ⟨w.heap.size, 4, none⟩ = some (.slice AW ws.length cw) ∧ w'.cell? ⟨w.heap.size, 5, none⟩ = some (.int .i64 q5) ∧ w'.cell? ⟨w.heap.size, 6, none⟩ = some (.string q6) ∧ w'.cell? ⟨w.heap.size, 7, none⟩ = some (.slice AI its.length ci) ∧ w'.cell? (ad.add (j * 4)) = some (.string r.f0) ∧ w'.cell? ⟨(ad.add (j * 4)).block, (ad.add (j * 4)).off + 1, none⟩ = some (.int .i64 r.f1) ∧ w'.cell? ⟨(ad.add (j * 4)).block, (ad.add (j * 4)).off + 2, none⟩ = some (.string r.f2) ∧ w'.cell? ⟨(ad.add (j * 4)).block, (ad.add (j * 4)).off + 3, none⟩ = some (.int .i64 r.f3) ∧ w'.cell? (ac.add (iN * 4)) = some (.bool false)) (first | exact HKeep.out _ (Below.refl _ _) | exact HKeep.out _ (below_drew (Below.refl _ _)) | exact HKeep.out _ (by assumption) | exact HKeep.out _ (below_drew (by assumption))) (first | ((go_at_call 15; refine (HBD.out _ (by first | exact below_drew (Below.refl _ _) | assumption)).mono ?_; rintro e w5 ⟨rfl, hb5⟩; have hbk : Below wr.heap.size wr w5 := (by first | exact below_step (below_drew (Below.refl _ _)) hb5 | exact below_step (by assumption) hb5))) | ((go_at_call 13; refine (HCO.out _ (by first | assumption | exact below_drew (Below.refl _ _))).mono ?_; rintro e w6 ⟨rfl, hb6⟩; have hbk2 : Below wr.heap.size wr w6 := (by first | exact below_step (by assumption) hb6 | exact below_step (below_drew (Below.refl _ _)) hb6))))
                      clear HKeep HBD HCO
                      cases eb with
                      | true =>
                        go_wp2_with fail
                        go_region_held3 (fun w' => w'.cell? ⟨w.heap.size, 0, none⟩ = some (.slice (some ac) cs.length c) ∧ w'.cell? ⟨w.heap.size, 1, none⟩ = some (.string q1) ∧ w'.cell? ⟨w.heap.size, 2, none⟩ = some (.int .i64 q2) ∧ w'.cell? ⟨w.heap.size, 3, none⟩ = some (v3) ∧ w'.cell? ⟨w.heap.size, 4, none⟩ = some (.slice AW ws.length cw) ∧ w'.cell? ⟨w.heap.size, 5, none⟩ = some (.int .i64 q5) ∧ w'.cell? ⟨w.heap.size, 6, none⟩ = some (.string q6) ∧ w'.cell? ⟨w.heap.size, 7, none⟩ = some (.slice AI its.length ci) ∧ w'.cell? (ad.add (j * 4)) = some (.string r.f0) ∧ w'.cell? ⟨(ad.add (j * 4)).block, (ad.add (j * 4)).off + 1, none⟩ = some (.int .i64 r.f1) ∧ w'.cell? ⟨(ad.add (j * 4)).block, (ad.add (j * 4)).off + 2, none⟩ = some (.string r.f2) ∧ w'.cell? ⟨(ad.add (j * 4)).block, (ad.add (j * 4)).off + 3, none⟩ = some (.int .i64 r.f3)) (first | exact HKeep2.out _ hbk2 | exact HKeep2.out _ (below_drew hbk2) | exact HKeep2.out _ (by assumption)) (first | ((go_at_call 15; refine (HBE.out _ (below_drew hbk2)).mono ?_; rintro e w7 ⟨rfl, hb7⟩; have hbk3 : Below wr.heap.size wr w7 := below_step (below_drew hbk2) hb7)))
                        go_wp2_with fail
                        go_roundw
                        case rel => exact ⟨j + 1, eb2, by omega, by go_num, rfl, rfl, below_step hB8' hbk3, Lib.hid (by have h := HO2.out; rw [Bool.true_and] at h; exact h)⟩
                        case measure => simp [intOf]; omega
                      | false =>
                        go_wp2_with fail
                        go_quiet (fail)
                        go_wp2_with fail
                        go_roundw
                        case rel => exact ⟨j + 1, false, by omega, by go_num, rfl, rfl, pw_below_drewN (below_step hB8' hbk2) _, Lib.hid (by have h := HO2.out; rw [Bool.false_and] at h; exact h)⟩
                        case measure => simp [intOf]; omega
                    · obtain rfl : j = rs.length := by omega
                      have hO2 := hO.out
                      rw [List.take_length] at hO2
                      have hef : eb = false := by
                        rw [hO2]
                        by_cases hp : (0 : Int) < 2 * (n : Int) + 1
                        · obtain ⟨r, hr, hb⟩ := HEARLY.out hp
                          rw [decide_eq_true hp, Bool.true_and]
                          cases ha : rs.all (fun r => boundB cs r (2 * (n : Int))) with
                          | false => rfl
                          | true => rw [List.all_eq_true.1 ha r hr] at hb; exact absurd hb (by decide)
                        · rw [decide_eq_false hp, Bool.false_and]
                      subst hef
                      clear hO2
                      go_wp2_with fail
                      go_ret
                      exact ⟨rfl, below_step hB7 hB⟩
            · exact absurd HCASE.out (by decide)
            · exact absurd HCASE.out (by decide)
      · have d : (a3 != 0) = true := by simpa using hf
        obtain ⟨rfl, rfl⟩ := anchorTop_err HAN.out.symm hf
        go_wp2_with fail
        go_ret
        exact ⟨rfl, hB6⟩
end Go.Proofs.Ytgnifglolbfamaa
