import Derived.Test.YtcfgmkmllcfjjaaGreatDoorZBJ
import Derived.Test.YtcfgmkmllcfjjaaGreatDoorZAS
import Derived.Test.YtcfgmkmllcfjjaaGreatDoorZBK
import Derived.Test.YtcfgmkmllcfjjaaGreatDoorZAW
set_option linter.unusedVariables false
set_option linter.unusedSimpArgs false
namespace Go.Proofs.YtcfgmkmllcfjjaaGreatDoor
open Go.RowKit Go.Proofs.YtcfgmkmllcfjjaaGreatDoorW.PrintWords Go.Proofs.YtcfgmkmllcfjjaaGreatDoorW.PrintMore PImageAll
theorem rsame_any {w : World} {A0 A1 : Option Addr} {c0 c1 : Nat} {l0 l1 : List Int} (hr0 : Kd.C (Kd.int .u8) w A0 l0.length l0) (hc0 : l0.length ≤ c0) (hr1 : Kd.C (Kd.int .u8) w A1 l1.length l1) (hc1 : l1.length ≤ c1) (hl : l0.length ≤ 4611686018427387904) :
    Calls Tryz.prog 31 #[.slice A0 l0.length c0, .slice A1 l1.length c1] w fun e w' => e = .returned (.bool (decide (l0 = l1))) ∧ Drawn0 w w' :=
  refrainref22_same.calls (l0.length + 1) A0 c0 l0 A1 c1 l1 _ w hr0 hc0 hr1 hc1 (same22_f hl (by omega))
set_option maxRecDepth 100000 in
set_option maxHeartbeats 16000000 in
theorem rLoad_any {w : World} {A : Option Addr} {c : Nat} {L : List Int} (hC : Kd.C (Kd.int .u8) w A L.length L) (hc : L.length ≤ c) (hB : Bytes L) (hm : L.length ≤ 4611686018427387904) :
    Calls Tryz.prog 13 #[.slice A L.length c] w (LoadPost w (loadF L)) := by
  rw [← uload_eq hB]
  generalize hWa : w.alloc (.cells #[.int .i64 0, .int .i64 0, .int .i64 0, .int .i64 0, .slice none 0 0, .slice none 0 0, .slice none 0 0] 31) = Wa
  generalize hW0 : Wa.alloc (.cells #[.int .i64 0, .int .i64 0, .int .i64 0, .int .i64 0, .slice none 0 0, .slice none 0 0, .slice none 0 0] 31) = W0
  have HWa := Lib.hid hWa
  have HW0 := Lib.hid hW0
  have sa : Wa.heap.size = w.heap.size + 1 := by rw [← hWa]; simp
  have ba : Below w.heap.size w Wa := by rw [← hWa]; exact below_new w _
  have b1 : Below Wa.heap.size Wa W0 := by rw [← hW0]; exact below_new Wa _
  have hb0 : Below w.heap.size w W0 := below_step ba b1
  have hz : IBox W0 w.heap.size zImg (.slice none 0 0) (.slice none 0 0) (.slice none 0 0) := blk_below (by rw [← hWa]; exact blk_new w _) b1
  have hn : IBox W0 (w.heap.size + 1) zImg (.slice none 0 0) (.slice none 0 0) (.slice none 0 0) := by rw [← sa, ← hW0]; exact blk_new Wa _
  have HB0 := Lib.hid hb0
  have HZ := Lib.hid hz
  have HN := Lib.hid hn
  have HC := Lib.hid hC
  have HB := Lib.hid hB
  have hlf : uloadF L = if 67108864 < L.length then (zImg, 2)
    else if L.length < 8 then (zImg, 30)
    else if sumB (L.take (L.length - 4)) = L.drop (L.length - 4) then
    (if (uimg (L.take (L.length - 4))).2.2 = true then (zImg, 220) else (if saveE (uimg (L.take (L.length - 4))).1 = 0 ∧ saveB (uimg (L.take (L.length - 4))).1 = L then ((uimg (L.take (L.length - 4))).1, 0) else (zImg, 220)))
    else (zImg, 32) := rfl
  generalize uloadF L = R at *
  by_cases hlong : 67108864 < L.length
  · rw [if_pos hlong] at hlf
    subst hlf
    have d1 : decide (67108864 < (L.length : Int)) = true := decide_eq_true (by omega)
    have z0 := (blk_cell hz 0).trans rfl
    have z1 := (blk_cell hz 1).trans rfl
    have z2 := (blk_cell hz 2).trans rfl
    have z3 := (blk_cell hz 3).trans rfl
    have z4 := (blk_cell hz 4).trans rfl
    have z5 := (blk_cell hz 5).trans rfl
    have z6 := (blk_cell hz 6).trans rfl
    have f0 := blk_frozen hz 0
    have f1 := blk_frozen hz 1
    have f2 := blk_frozen hz 2
    have f3 := blk_frozen hz 3
    have f4 := blk_frozen hz 4
    have f5 := blk_frozen hz 5
    have f6 := blk_frozen hz 6
    have n0 := (blk_cell hn 0).trans rfl
    have n1 := (blk_cell hn 1).trans rfl
    have n2 := (blk_cell hn 2).trans rfl
    have n3 := (blk_cell hn 3).trans rfl
    have n4 := (blk_cell hn 4).trans rfl
    have n5 := (blk_cell hn 5).trans rfl
    have n6 := (blk_cell hn 6).trans rfl
    clear hWa hW0 hb0 hz hn hC hB sa ba b1 hlong
    go_enter Tryz.func13, Tryz.ntmps13
    go_upto_region 2 with fail
    rw [HWa.out, HW0.out]
    go_wp2_with fail
    exact bodyPost_ret (results_ct rfl _ _ w.heap.size 31 #[.int .i64 0, .int .i64 0, .int .i64 0, .int .i64 0, .slice none 0 0, .slice none 0 0, .slice none 0 0] (0, 0) _ rfl (IBox.put HZ.out zImg _ _ _) Tryz.underlying31 rfl (by kernel_rfl)) rfl ⟨_, _, _, rfl, IRows.nil _ _, below7 HB0.out (Nat.le_refl _) _ _ _ _ _ _ _⟩
  · rw [if_neg hlong] at hlf
    have d1 : decide (67108864 < (L.length : Int)) = false := decide_eq_false (by omega)
    by_cases hshort : L.length < 8
    · rw [if_pos hshort] at hlf
      subst hlf
      have d2 : decide ((L.length : Int) < 8) = true := decide_eq_true (by omega)
      have z0 := (blk_cell hz 0).trans rfl
      have z1 := (blk_cell hz 1).trans rfl
      have z2 := (blk_cell hz 2).trans rfl
      have z3 := (blk_cell hz 3).trans rfl
      have z4 := (blk_cell hz 4).trans rfl
      have z5 := (blk_cell hz 5).trans rfl
      have z6 := (blk_cell hz 6).trans rfl
      have f0 := blk_frozen hz 0
      have f1 := blk_frozen hz 1
      have f2 := blk_frozen hz 2
      have f3 := blk_frozen hz 3
      have f4 := blk_frozen hz 4
      have f5 := blk_frozen hz 5
      have f6 := blk_frozen hz 6
      have n0 := (blk_cell hn 0).trans rfl
      have n1 := (blk_cell hn 1).trans rfl
      have n2 := (blk_cell hn 2).trans rfl
      have n3 := (blk_cell hn 3).trans rfl
      have n4 := (blk_cell hn 4).trans rfl
      have n5 := (blk_cell hn 5).trans rfl
      have n6 := (blk_cell hn 6).trans rfl
      clear hWa hW0 hb0 hz hn hC hB sa ba b1 hlong hshort
      go_enter Tryz.func13, Tryz.ntmps13
      go_upto_region 2 with fail
      rw [HWa.out, HW0.out]
      go_wp2_with fail
      exact bodyPost_ret (results_ct rfl _ _ w.heap.size 31 #[.int .i64 0, .int .i64 0, .int .i64 0, .int .i64 0, .slice none 0 0, .slice none 0 0, .slice none 0 0] (0, 0) _ rfl (IBox.put HZ.out zImg _ _ _) Tryz.underlying31 rfl (by kernel_rfl)) rfl ⟨_, _, _, rfl, IRows.nil _ _, below7 HB0.out (Nat.le_refl _) _ _ _ _ _ _ _⟩
    · rw [if_neg hshort] at hlf
      have d2 : decide ((L.length : Int) < 8) = false := decide_eq_false (by omega)
      obtain ⟨k, hk⟩ : ∃ k, L.length = k + 4 := ⟨L.length - 4, by omega⟩
      have hk4 : L.length - 4 = k := by omega
      rw [hk4] at hlf
      obtain ⟨i0, hi, hzz⟩ := Option.map_eq_some_iff.1 info5
      simp only [Prod.mk.injEq] at hzz
      obtain ⟨hz0, hz1, hz2⟩ := hzz
      have ht := cut_to (P := Tryz.prog) 33 5 .i64 Tryz.underlying33 hi A L.length c ((L.length : Int) - 4) (by omega) (by omega) hc
      have hf := cut_from (P := Tryz.prog) 33 5 .i64 Tryz.underlying33 hi 1 hz1 A L.length c ((L.length : Int) - 4) (by omega) (by omega)
      rw [show ((L.length : Int) - 4).toNat = k by omega] at ht hf
      rw [show L.length - k = 4 by omega] at hf
      have hlt : (L.take k).length = k := by rw [List.length_take]; omega
      have hld : (L.drop k).length = 4 := by rw [List.length_drop]; omega
      have hCt := Kd.C_take hC (show k ≤ L.length by omega)
      have hCd := Kd.C_drop hC (show k ≤ L.length by omega) hc
      rw [hlt] at hCt
      rw [hld] at hCd
      have hCd' : Kd.C (Kd.int .u8) w (if c = k then A else A.map (·.add (k * 1))) 4 (L.drop k) := hCd
      generalize (if c = k then A else A.map (·.add (k * 1))) = A1 at *
      have hBt : Bytes (L.take k) := hB.take k
      have hBd : Bytes (L.drop k) := hB.drop k
      have HS1 := Lib.hid (show ∀ W, Below w.heap.size w W → Calls Tryz.prog 27 #[.slice A k c] W fun e w' => ∃ g c1, e = .returned (.slice (some ⟨g, 0, none⟩) 4 c1) ∧ BRow w' W.heap.size (.slice (some ⟨g, 0, none⟩) 4 c1) (sumB (L.take k)) ∧ Below W.heap.size W w' from fun W hW => by
        have := rsum_any (w := W) (A := A) (c := c) (l := L.take k) (by rw [hlt]; exact Kd.C_below hCt hW) (by rw [hlt]; omega) hBt (by rw [hlt]; omega)
        rw [hlt] at this
        exact this)
      have HE1 := Lib.hid (show ∀ W g c1, Below w.heap.size w W → BRow W w.heap.size (.slice (some ⟨g, 0, none⟩) 4 c1) (sumB (L.take k)) → Calls Tryz.prog 31 #[.slice (some ⟨g, 0, none⟩) 4 c1, .slice A1 4 (c - k)] W fun e w' => e = .returned (.bool (decide (sumB (L.take k) = L.drop k))) ∧ Drawn0 W w' from fun W g c1 hW hr => by
        obtain ⟨h1, h2⟩ := BRow.reads (l := sumB (L.take k)) hr
        have := rsame_any (w := W) (A0 := some ⟨g, 0, none⟩) (A1 := A1) (c0 := c1) (c1 := c - k) (l0 := sumB (L.take k)) (l1 := L.drop k) h2 h1 (by rw [hld]; exact Kd.C_below hCd' hW) (by rw [hld]; omega) (by rw [sumB_len]; decide)
        rw [hld] at this
        exact this)
      have HCt := Lib.hid hCt
      have HCL := Lib.hid hC
      have HKC := Lib.hid (show k ≤ c ∧ k ≤ 67108864 by omega)
      have HLT := Lib.hid hlt
      have HBT := Lib.hid hBt
      have HLF := Lib.hid hlf
      clear hW0 hWa sa ba b1 hb0 hz hn hC hB hlong hshort hk hk4 hi hz0 hz1 hz2 hlt hld hCt hCd hCd' hBt hBd hlf
      generalize hsb : decide (sumB (L.take k) = L.drop k) = sb at *
      have HSB := Lib.hid hsb
      clear hsb
      obtain ⟨nb, hnb⟩ : ∃ nb : Bool, nb = !sb := ⟨_, rfl⟩
      have HNB := Lib.hid hnb
      clear hnb
      go_enter Tryz.func13, Tryz.ntmps13
      go_upto_region 2 with fail
      rw [HWa.out, HW0.out]
      go_upto_region 7 with fail
      go_cut [29] from 21 to 28 (fun t29 wx => t29 = .bool nb ∧ Hid (Below W0.heap.size W0 wx))
      case first =>
        go_region_law (first
          | (go_simp; go_at_call 27; (with_reducible refine (HS1.out _ (by first | exact below_drew HB0.out | exact HB0.out)).mono ?_); rintro e5 w5 ⟨g5, c5, rfl, h5, hb5⟩; have HB5 : Hid (Below W0.heap.size W0 w5) := Lib.hid (by first | exact below_step (below_drew (Below.refl _ _)) hb5 | exact hb5); have H5 := Lib.hid (own_less h5 (by first | exact (below_drew HB0.out).size | exact HB0.out.size) : BRow w5 w.heap.size _ _); clear h5 hb5)
          | (go_simp; go_at_call 31; refine (HE1.out _ _ _ (below_step HB0.out HB5.out) H5.out).mono ?_; rintro e6 w6 ⟨rfl, ⟨n6, rfl⟩⟩)
          | fail)
        all_goals
          go_wp2_with fail
          go_meet
          exact ⟨congrArg Value.bool HNB.out.symm, Lib.hid (pw_below_drewN HB5.out _)⟩
      case rest =>
        obtain ⟨rfl, HBX⟩ := hcut
        obtain ⟨wa, rfl⟩ : ∃ wa : World, wa = wc := ⟨_, rfl⟩
        clear hf HS1 HE1
        have hza : IBox wa w.heap.size zImg (.slice none 0 0) (.slice none 0 0) (.slice none 0 0) := blk_below HZ.out HBX.out
        have hna : IBox wa (w.heap.size + 1) zImg (.slice none 0 0) (.slice none 0 0) (.slice none 0 0) := blk_below HN.out HBX.out
        have HZA := Lib.hid hza
        have HNA := Lib.hid hna
        have HBA := Lib.hid (below_step HB0.out HBX.out)
        cases sb
        · obtain rfl : nb = true := HNB.out
          have hR : R = (zImg, 32) := HLF.out.trans (if_neg (of_decide_eq_false HSB.out))
          subst hR
          clear HLF
          have z0 := (blk_cell hza 0).trans rfl
          have z1 := (blk_cell hza 1).trans rfl
          have z2 := (blk_cell hza 2).trans rfl
          have z3 := (blk_cell hza 3).trans rfl
          have z4 := (blk_cell hza 4).trans rfl
          have z5 := (blk_cell hza 5).trans rfl
          have z6 := (blk_cell hza 6).trans rfl
          have f0 := blk_frozen hza 0
          have f1 := blk_frozen hza 1
          have f2 := blk_frozen hza 2
          have f3 := blk_frozen hza 3
          have f4 := blk_frozen hza 4
          have f5 := blk_frozen hza 5
          have f6 := blk_frozen hza 6
          have n0 := (blk_cell hna 0).trans rfl
          have n1 := (blk_cell hna 1).trans rfl
          have n2 := (blk_cell hna 2).trans rfl
          have n3 := (blk_cell hna 3).trans rfl
          have n4 := (blk_cell hna 4).trans rfl
          have n5 := (blk_cell hna 5).trans rfl
          have n6 := (blk_cell hna 6).trans rfl
          clear hza hna
          go_wp2_with fail
          exact bodyPost_ret (results_ct rfl _ _ w.heap.size 31 #[.int .i64 0, .int .i64 0, .int .i64 0, .int .i64 0, .slice none 0 0, .slice none 0 0, .slice none 0 0] (0, 0) _ rfl (IBox.put HZA.out zImg _ _ _) Tryz.underlying31 rfl (by kernel_rfl)) rfl ⟨_, _, _, rfl, IRows.nil _ _, below7 HBA.out (Nat.le_refl _) _ _ _ _ _ _ _⟩
        · obtain rfl : nb = false := HNB.out
          have HLF2 := Lib.hid (HLF.out.trans (if_pos (of_decide_eq_true HSB.out)))
          clear HLF hza hna
          have hS0 : URAt wa (wa.alloc (.cells #[.slice A k c, .int .i64 0, .bool false] 88)) wa.heap.size (L.take k) (0, false) := by
            refine ⟨Nat.le_refl _, below_new wa _, Nat.zero_le _, A, c, ?_, ?_, ?_⟩
            · rw [HLT.out]
              exact blk_new wa _
            · rw [HLT.out]
              exact HKC.out.1
            · rw [HLT.out]
              exact Kd.C_below HCt.out HBA.out
          have HIM := Lib.hid (uimage_any hS0 HBT.out (by rw [HLT.out]; exact HKC.out.2))
          have hI := uimg_I (l := L.take k) (by rw [HLT.out]; exact HKC.out.2)
          clear hS0
          generalize uimg (L.take k) = r at *
          obtain ⟨m, p, bd⟩ := r
          have HLF2 : Hid (R = if bd = true then (zImg, 220) else (if saveE m = 0 ∧ saveB m = L then (m, 0) else (zImg, 220))) := HLF2
          have HI : Hid (ImgI m ∧ m.seens.length ≤ 67108864) := Lib.hid hI
          clear hI
          go_upto_region 11 with (go_at_call 32; refine HIM.out.mono ?_; rintro e2 w2 ⟨v4, v5, v6, he2, hr2, hu2⟩; unfold imgV at he2; subst he2; obtain ⟨A4, c4, rfl⟩ := Kd.R_slice hr2.1; obtain ⟨A5, c5, rfl⟩ := Kd.R_slice hr2.2.1; obtain ⟨A6, c6, rfl⟩ := Kd.R_slice hr2.2.2; have HR2 := Lib.hid hr2; have HU2 := Lib.hid hu2; clear hr2 hu2)
          have bw := HU2.out.2.1
          have bn := below_new w2 (.cells #[.int .i64 m.runs, .int .i64 m.made, .int .i64 m.seq, .int .i64 m.now, .slice A4 m.types.length c4, .slice A5 m.saved.length c5, .slice A6 m.seens.length c6] 31)
          have hm3 : IBox (w2.alloc (.cells #[.int .i64 m.runs, .int .i64 m.made, .int .i64 m.seq, .int .i64 m.now, .slice A4 m.types.length c4, .slice A5 m.saved.length c5, .slice A6 m.seens.length c6] 31)) w2.heap.size m (.slice A4 m.types.length c4) (.slice A5 m.saved.length c5) (.slice A6 m.seens.length c6) := blk_new w2 _
          have hr3 : IRows wa (w2.alloc (.cells #[.int .i64 m.runs, .int .i64 m.made, .int .i64 m.seq, .int .i64 m.now, .slice A4 m.types.length c4, .slice A5 m.saved.length c5, .slice A6 m.seens.length c6] 31)) m (.slice A4 m.types.length c4) (.slice A5 m.saved.length c5) (.slice A6 m.seens.length c6) := ⟨Kd.R_below HR2.out.1 bn, Kd.R_below HR2.out.2.1 bn, Kd.R_below HR2.out.2.2 bn⟩
          obtain ⟨_, _, _, _, g2, _⟩ := (HU2.out.below bn).cells
          have bw3 := below_step bw bn
          have HM3 := Lib.hid hm3
          have HR3 := Lib.hid hr3
          have HBW := Lib.hid bw3
          have h22 := HZA.out
          generalize hb7 : w2.heap.size = b7 at *
          clear hb7
          generalize w2.alloc (.cells #[.int .i64 m.runs, .int .i64 m.made, .int .i64 m.seq, .int .i64 m.now, .slice A4 m.types.length c4, .slice A5 m.saved.length c5, .slice A6 m.seens.length c6] 31) = w3 at *
          have g2 : w3.cell? ⟨wa.heap.size, 2, none⟩ = some (.bool bd) := g2
          have hz3 : IBox w3 w.heap.size zImg (.slice none 0 0) (.slice none 0 0) (.slice none 0 0) := blk_below HZA.out bw3
          have hn3 : IBox w3 (w.heap.size + 1) zImg (.slice none 0 0) (.slice none 0 0) (.slice none 0 0) := blk_below HNA.out bw3
          have HZ3 := Lib.hid hz3
          have HN3 := Lib.hid hn3
          have HB3 := Lib.hid (below_step HBA.out bw3)
          clear bn bw bw3 hm3 hr3 h22
          cases bd
          rotate_left
          · have hR : R = (zImg, 220) := HLF2.out.trans (if_pos rfl)
            subst hR
            clear HLF2
            have z0 := (blk_cell hz3 0).trans rfl
            have z1 := (blk_cell hz3 1).trans rfl
            have z2 := (blk_cell hz3 2).trans rfl
            have z3 := (blk_cell hz3 3).trans rfl
            have z4 := (blk_cell hz3 4).trans rfl
            have z5 := (blk_cell hz3 5).trans rfl
            have z6 := (blk_cell hz3 6).trans rfl
            have f0 := blk_frozen hz3 0
            have f1 := blk_frozen hz3 1
            have f2 := blk_frozen hz3 2
            have f3 := blk_frozen hz3 3
            have f4 := blk_frozen hz3 4
            have f5 := blk_frozen hz3 5
            have f6 := blk_frozen hz3 6
            have n0 := (blk_cell hn3 0).trans rfl
            have n1 := (blk_cell hn3 1).trans rfl
            have n2 := (blk_cell hn3 2).trans rfl
            have n3 := (blk_cell hn3 3).trans rfl
            have n4 := (blk_cell hn3 4).trans rfl
            have n5 := (blk_cell hn3 5).trans rfl
            have n6 := (blk_cell hn3 6).trans rfl
            clear hz3 hn3
            go_wp2_with fail
            exact bodyPost_ret (results_ct rfl _ _ w.heap.size 31 #[.int .i64 0, .int .i64 0, .int .i64 0, .int .i64 0, .slice none 0 0, .slice none 0 0, .slice none 0 0] (0, 0) _ rfl (IBox.put HZ3.out zImg _ _ _) Tryz.underlying31 rfl (by kernel_rfl)) rfl ⟨_, _, _, rfl, IRows.nil _ _, below7 HB3.out (Nat.le_refl _) _ _ _ _ _ _ _⟩
          · have HLF4 : Hid (R = if saveE m = 0 ∧ saveB m = L then (m, 0) else (zImg, 220)) := Lib.hid (HLF2.out.trans (if_neg (by simp)))
            clear HLF2
            have q4 := Kd.R_reads' HR3.out.1
            have q5 := Kd.R_reads' HR3.out.2.1
            have q6 := Kd.R_reads' HR3.out.2.2
            have HSV := Lib.hid (rSave_any (w := w3) (m := m) (A4 := A4) (A5 := A5) (A6 := A6) (c4 := c4) (c5 := c5) (c6 := c6) HI.out.1 ⟨⟨q4.2.2, q4.2.1⟩, ⟨q5.2.2, q5.2.1⟩, ⟨q6.2.2, q6.2.1⟩⟩ (by have := HI.out.2; omega))
            clear q4 q5 q6
            have e0 := (IBox.cells HM3.out 0).trans rfl
            have e1 := (IBox.cells HM3.out 1).trans rfl
            have e2 := (IBox.cells HM3.out 2).trans rfl
            have e3 := (IBox.cells HM3.out 3).trans rfl
            have e4 := (IBox.cells HM3.out 4).trans rfl
            have e5 := (IBox.cells HM3.out 5).trans rfl
            have e6 := (IBox.cells HM3.out 6).trans rfl
            go_upto_region 14 with (go_at_call 8; refine HSV.out.mono ?_; rintro e9 w9 ⟨A9, c9, rfl, hby, hB9⟩; have HBY := Lib.hid hby; have HB9 := Lib.hid hB9; clear hby hB9)
            clear e0 e1 e2 e3 e4 e5 e6 g2 hz3 hn3
            have hz9 : IBox w9 w.heap.size zImg (.slice none 0 0) (.slice none 0 0) (.slice none 0 0) := blk_below HZ3.out HB9.out
            have hn9 : IBox w9 (w.heap.size + 1) zImg (.slice none 0 0) (.slice none 0 0) (.slice none 0 0) := blk_below HN3.out HB9.out
            have hm9 : IBox w9 b7 m (.slice A4 m.types.length c4) (.slice A5 m.saved.length c5) (.slice A6 m.seens.length c6) := blk_below HM3.out HB9.out
            have HZ9 := Lib.hid hz9
            have HBW9 := Lib.hid (below_step HB3.out HB9.out)
            have HR9 : Hid (IRows w w9 m (.slice A4 m.types.length c4) (.slice A5 m.saved.length c5) (.slice A6 m.seens.length c6)) := Lib.hid ⟨Kd.R_lower (Kd.R_below HR3.out.1 HB9.out) HBA.out.size, Kd.R_lower (Kd.R_below HR3.out.2.1 HB9.out) HBA.out.size, Kd.R_lower (Kd.R_below HR3.out.2.2 HB9.out) HBA.out.size⟩
            have z0 := (blk_cell hz9 0).trans rfl
            have z1 := (blk_cell hz9 1).trans rfl
            have z2 := (blk_cell hz9 2).trans rfl
            have z3 := (blk_cell hz9 3).trans rfl
            have z4 := (blk_cell hz9 4).trans rfl
            have z5 := (blk_cell hz9 5).trans rfl
            have z6 := (blk_cell hz9 6).trans rfl
            have f0 := blk_frozen hz9 0
            have f1 := blk_frozen hz9 1
            have f2 := blk_frozen hz9 2
            have f3 := blk_frozen hz9 3
            have f4 := blk_frozen hz9 4
            have f5 := blk_frozen hz9 5
            have f6 := blk_frozen hz9 6
            have n0 := (blk_cell hn9 0).trans rfl
            have n1 := (blk_cell hn9 1).trans rfl
            have n2 := (blk_cell hn9 2).trans rfl
            have n3 := (blk_cell hn9 3).trans rfl
            have n4 := (blk_cell hn9 4).trans rfl
            have n5 := (blk_cell hn9 5).trans rfl
            have n6 := (blk_cell hn9 6).trans rfl
            have y0 := (blk_cell hm9 0).trans rfl
            have y1 := (blk_cell hm9 1).trans rfl
            have y2 := (blk_cell hm9 2).trans rfl
            have y3 := (blk_cell hm9 3).trans rfl
            have y4 := (blk_cell hm9 4).trans rfl
            have y5 := (blk_cell hm9 5).trans rfl
            have y6 := (blk_cell hm9 6).trans rfl
            by_cases hse : saveE m = 0
            · have d4 : (saveE m != 0) = false := by simpa using hse
              have HEQ := Lib.hid (rsame_any (w := w9) (l0 := saveB m) (l1 := L) HBY.out.1 HBY.out.2 (Kd.C_below HCL.out HBW9.out) hc (by
                have : saveB m = laid m ++ sumB (laid m) := if_pos hse
                have h3 := (save_zero hse).2.2
                rw [this, List.length_append, sumB_len]
                omega))
              have HSE := Lib.hid hse
              clear hz9 hn9 hm9 hse HBY
              generalize saveB m = Lb at *
              generalize heb : decide (Lb = L) = eb at *
              have HEB := Lib.hid heb
              clear heb
              cases eb
              · have hR : R = (zImg, 220) := HLF4.out.trans (if_neg (fun h => of_decide_eq_false HEB.out h.2))
                subst hR
                clear HLF4
                go_wp2_with (go_at_call 31; refine HEQ.out.mono ?_; rintro e10 w10 ⟨rfl, ⟨n10, rfl⟩⟩)
                exact bodyPost_ret (results_ct rfl _ _ w.heap.size 31 #[.int .i64 0, .int .i64 0, .int .i64 0, .int .i64 0, .slice none 0 0, .slice none 0 0, .slice none 0 0] (0, 0) _ rfl (IBox.put (W := w9.drewN n10) HZ9.out zImg _ _ _) Tryz.underlying31 rfl (by kernel_rfl)) rfl ⟨_, _, _, rfl, IRows.nil _ _, below7 (pw_below_drewN HBW9.out n10) (Nat.le_refl _) _ _ _ _ _ _ _⟩
              · have hR : R = (m, 0) := HLF4.out.trans (if_pos ⟨HSE.out, of_decide_eq_true HEB.out⟩)
                subst hR
                clear HLF4
                go_wp2_with (go_at_call 31; refine HEQ.out.mono ?_; rintro e10 w10 ⟨rfl, ⟨n10, rfl⟩⟩)
                have hz10 : IBox (w9.drewN n10) w.heap.size zImg (.slice none 0 0) (.slice none 0 0) (.slice none 0 0) := HZ9.out
                have bd10 := pw_below_drewN (Below.refl w9.heap.size w9) n10
                have hF := IBox.put hz10 m (.slice A4 m.types.length c4) (.slice A5 m.saved.length c5) (.slice A6 m.seens.length c6)
                have hRR := IRows.put (w := w) ⟨Kd.R_below HR9.out.1 bd10, Kd.R_below HR9.out.2.1 bd10, Kd.R_below HR9.out.2.2 bd10⟩ hz10 m (.slice A4 m.types.length c4) (.slice A5 m.saved.length c5) (.slice A6 m.seens.length c6)
                exact bodyPost_ret (results_ct rfl _ _ w.heap.size 31 #[.int .i64 m.runs, .int .i64 m.made, .int .i64 m.seq, .int .i64 m.now, .slice A4 m.types.length c4, .slice A5 m.saved.length c5, .slice A6 m.seens.length c6] (0, 0) _ rfl hF Tryz.underlying31 rfl (by kernel_rfl)) rfl ⟨_, _, _, rfl, hRR, below7 (pw_below_drewN HBW9.out n10) (Nat.le_refl _) _ _ _ _ _ _ _⟩
            · have hR : R = (zImg, 220) := HLF4.out.trans (if_neg (fun h => hse h.1))
              subst hR
              have d4 : (saveE m != 0) = true := by simpa using hse
              clear HLF4 hse hz9 hn9 hm9 HBY
              go_wp2_with fail
              exact bodyPost_ret (results_ct rfl _ _ w.heap.size 31 #[.int .i64 0, .int .i64 0, .int .i64 0, .int .i64 0, .slice none 0 0, .slice none 0 0, .slice none 0 0] (0, 0) _ rfl (IBox.put HZ9.out zImg _ _ _) Tryz.underlying31 rfl (by kernel_rfl)) rfl ⟨_, _, _, rfl, IRows.nil _ _, below7 HBW9.out (Nat.le_refl _) _ _ _ _ _ _ _⟩
def roomL (L : List Int) : List Int := L ++ (List.range 66).map (fun j : Nat => (137 + (j : Int)) % 256)
theorem roomL_len (L : List Int) : (roomL L).length = L.length + 66 := by simp [roomL]
theorem roomL_lt {L : List Int} {i : Nat} (hi : i < L.length) (h : i < (roomL L).length) : (roomL L)[i] = L[i] := List.getElem_append_left hi
theorem roomL_ge {L : List Int} {i : Nat} (hi : L.length ≤ i) (h : i < (roomL L).length) : (roomL L)[i] = (137 + (i : Int) - (L.length : Int)) % 256 := by
  have h2 : (roomL L)[i] = ((List.range 66).map (fun j : Nat => (137 + (j : Int)) % 256))[i - L.length]'(by rw [roomL_len] at h; simp; omega) := List.getElem_append_right hi
  rw [h2, List.getElem_map, List.getElem_range]
  congr 1
  omega
def byC (x : Int) : List Value := [.int .u8 x]
def RmRow (W : World) (g : Nat) (L : List Int) (i : Nat) : Prop := Cl W g 5 (((roomL L).take i).flatMap byC ++ zr [.int .u8 0] (L.length + 66 - i))
theorem RmRow.open_ {W : World} {g : Nat} {L : List Int} {i : Nat} (h : RmRow W g L i) (hi : i < L.length + 66) :
    ∃ a r, a.length = i ∧ Cl W g 5 (a ++ .int .u8 0 :: r) ∧ (∀ (hx : i < L.length) W', Cl W' g 5 (a ++ .int .u8 L[i] :: r) → RmRow W' g L (i + 1)) ∧ (L.length ≤ i → ∀ W', Cl W' g 5 (a ++ .int .u8 ((137 + (i : Int) - (L.length : Int)) % 256) :: r) → RmRow W' g L (i + 1)) := by
  have hR : i < (roomL L).length := by rw [roomL_len]; omega
  have key : ∀ W' x, (roomL L)[i] = x → Cl W' g 5 (((roomL L).take i).flatMap byC ++ (byC x ++ zr [.int .u8 0] (L.length + 66 - (i + 1)))) → RmRow W' g L (i + 1) := by
    intro W' x hx h'
    subst hx
    rw [row_on byC hR _] at h'
    exact h'
  refine ⟨((roomL L).take i).flatMap byC, zr [.int .u8 0] (L.length + 66 - (i + 1)), ?_, ?_, fun hx W' h' => key W' _ (roomL_lt hx hR) h', fun hx W' h' => key W' _ (roomL_ge hx hR) h'⟩
  · rw [flatC_len byC 1 (fun _ => rfl), List.length_take]; omega
  · unfold RmRow at h
    rw [row_at byC [.int .u8 0] (by decide) (roomL_len L) hi] at h
    exact h
theorem at_byte {w : World} {A : Option Addr} {l : List Int} {i : Nat} (h : Kd.C (Kd.int .u8) w A l.length l) (hi : i < l.length) : ∃ ad, A = some ad ∧ w.cell? (ad.add i) = some (.int .u8 l[i]) := by
  obtain ⟨ad, c, e, _, hK, hc0⟩ := Kd.C_get h 0 (i : Int) (by omega) (by omega)
  have hg : l.getD ((i : Int).toNat) 0 = l[i] := by simp [List.getD_eq_getElem?_getD, List.getElem?_eq_getElem hi]
  rw [hg] at hK
  have hK : c = [.int .u8 l[i]] := hK
  subst hK
  have hc := hc0 0 _ rfl
  rw [show (Kd.int .u8).sz = 1 from rfl, Nat.add_zero, Nat.mul_one] at hc
  exact ⟨ad, e, hc⟩
theorem infoB : (Tryz.prog.info? 5).map (fun i => (i.zero, i.size, i.bytes)) = some (some (.int .u8 0), 1, 1) := by kernel_rfl
set_option maxRecDepth 100000 in
set_option maxHeartbeats 2000000 in
theorem roomy_any {W : World} {A : Option Addr} {c : Nat} {L : List Int} {n : Nat} (hA : BytesAt W A c L) (hL : L.length ≤ 1000000000000) (hn : n = (roomL L).length) :
    Calls Tryz.prog 11 #[.slice A L.length c] W fun e w' => ∃ A' c', e = .returned (.slice A' n c') ∧ BytesAt w' A' c' (roomL L) ∧ Below W.heap.size W w' := by
  have hn2 : n = L.length + 66 := by rw [hn, roomL_len]
  have hm := print_make (P := Tryz.prog) 33 5 .u8 1 Tryz.underlying33 infoB (by decide) n (by omega)
  have hR0 : RmRow (W.alloc (.cells (madeCells #[.int .u8 0] n) 5)) W.heap.size L 0 := by
    have h1 := made_cl W [.int .u8 0] n 5
    rw [show n * [Value.int .u8 0].length = n from Nat.mul_one n] at h1
    unfold RmRow
    rw [Nat.sub_zero, ← hn2]
    exact h1
  have HR0 := Lib.hid hR0
  have HB0 := Lib.hid (below_new W (.cells (madeCells #[.int .u8 0] n) 5))
  have HA := Lib.hid hA.1
  have wn : IntKind.i64.wrap ((L.length : Int) + 66) = (n : Int) := by rw [IntKind.wrap_i64]; omega
  have hnb : n ≤ 2000000000000 := by omega
  have HN := Lib.hid hn
  have HN2 := Lib.hid hn2
  clear hA hR0 hn hn2
  go_enter Tryz.func11, Tryz.ntmps11
  go_upto_region 4 with fail
  generalize W.alloc (.cells (madeCells #[.int .u8 0] n) 5) = W1 at *
  go_loopw [5] (fun t5 wr => ∃ i : Nat, i ≤ n ∧ t5 = .int .i64 i ∧ Hid (Below W.heap.size W wr) ∧ Hid (RmRow wr W.heap.size L i)) (fun t5 _ => n - (intOf t5).toNat)
  case atStart => exact ⟨0, by omega, rfl, HB0, HR0⟩
  case round =>
    obtain ⟨i, hi, rfl, hB, hR⟩ := hrel
    by_cases hlt : i < n
    · have i1 : (0 : Int) ≤ (i : Int) := by omega
      have i2 : (i : Int) < (n : Int) := by omega
      obtain ⟨a, r, ha, hc, hin, hout⟩ := hR.out.open_ (by rw [← HN2.out]; exact hlt)
      have q0 : wr.cell? ⟨W.heap.size, i, none⟩ = some (.int .u8 0) := by rw [hc.cell, ← ha]; simp
      have q0f := hc.fr i
      have w1 : IntKind.i64.wrap (137 + (i : Int)) = 137 + (i : Int) := by rw [IntKind.wrap_i64]; omega
      have w2 : IntKind.i64.wrap (137 + (i : Int) - (L.length : Int)) = 137 + (i : Int) - (L.length : Int) := by rw [IntKind.wrap_i64]; omega
      have w3 : IntKind.u8.wrap (137 + (i : Int) - (L.length : Int)) = (137 + (i : Int) - (L.length : Int)) % 256 := by rw [IntKind.wrap_u8]
      have HC := Lib.hid (hc.put1 ha (.int .u8 ((137 + (i : Int) - (L.length : Int)) % 256)))
      have HB2 := Lib.hid (hB.out.setCell (p := ⟨W.heap.size, i, none⟩) (Nat.le_refl _) (.int .u8 ((137 + (i : Int) - (L.length : Int)) % 256)))
      have HIN := Lib.hid hin
      have HOUT := Lib.hid hout
      have HAL := Lib.hid ha
      clear hB hR hc hin hout ha
      go_upto_region 7 with fail
      generalize wr.setCell ⟨W.heap.size, i, none⟩ (.int .u8 ((137 + (i : Int) - (L.length : Int)) % 256)) = W2 at *
      by_cases hx : i < L.length
      · have i3 : (i : Int) < (L.length : Int) := by omega
        obtain ⟨ad, e, p0⟩ := at_byte HA.out hx
        subst e
        have p0 := pw_cell_below HB2.out p0
        have q0 : W2.cell? ⟨W.heap.size, i, none⟩ = some (.int .u8 ((137 + (i : Int) - (L.length : Int)) % 256)) := by rw [HC.out.cell, ← HAL.out]; simp
        have q0f := HC.out.fr i
        have HB3 := Lib.hid (HB2.out.setCell (p := ⟨W.heap.size, i, none⟩) (Nat.le_refl _) (.int .u8 L[i]))
        have HR3 := Lib.hid (HIN.out hx _ (HC.out.put1 HAL.out (.int .u8 L[i])))
        generalize L[i] = y at *
        go_wp2_with fail
        go_roundw
        case rel => exact ⟨i + 1, by omega, by go_num, HB3, HR3⟩
        case measure => simp [intOf]; omega
      · have i3 : ¬ (i : Int) < (L.length : Int) := by omega
        go_wp2_with fail
        go_roundw
        case rel => exact ⟨i + 1, by omega, by go_num, HB2, Lib.hid (HOUT.out (by omega) _ HC.out)⟩
        case measure => simp [intOf]; omega
    · obtain rfl : n = i := by omega
      have hR2 := hR.out
      unfold RmRow at hR2
      rw [HN2.out, Nat.sub_self, zr_zero] at hR2
      go_wp2_with fail
      go_ret
      refine ⟨_, _, rfl, ⟨?_, by rw [HN.out]; exact Nat.le_refl _⟩, hB.out⟩
      rw [List.take_of_length_le (by rw [roomL_len]; omega)] at hR2
      exact Cl.reads (k := Kd.int .u8) (ps := roomL L) hR2 (reps_flat (R := (Kd.int .u8).K wr) byC 1 (fun _ => rfl) (fun x => (rfl : (Kd.int .u8).K wr x [.int .u8 x])) _) (by rw [roomL_len]; omega)
def k31 : Kd Img := Kd.iso (Kd.pair (Kd.int .i64) (Kd.pair (Kd.int .i64) (Kd.pair (Kd.int .i64) (Kd.pair (Kd.int .i64) (Kd.pair (Kd.slice 56 k56) (Kd.pair (Kd.slice 60 k60) (Kd.slice 65 k65))))))) (fun m : Img => (m.runs, m.made, m.seq, m.now, m.types, m.saved, m.seens))
theorem k31_open {w : World} {m : Img} {cs : List Value} (h : k31.K w m cs) : ∃ A4 c4 A5 c5 A6 c6, cs = [.int .i64 m.runs, .int .i64 m.made, .int .i64 m.seq, .int .i64 m.now, .slice A4 m.types.length c4, .slice A5 m.saved.length c5, .slice A6 m.seens.length c6] ∧ ImgV w m A4 c4 A5 c5 A6 c6 := by
  obtain ⟨_, _, rfl, rfl, ⟨_, _, rfl, rfl, ⟨_, _, rfl, rfl, ⟨_, _, rfl, rfl, ⟨_, _, rfl, ⟨A4, c4, rfl, l4, g4⟩, ⟨_, _, rfl, ⟨A5, c5, rfl, l5, g5⟩, ⟨A6, c6, rfl, l6, g6⟩⟩⟩⟩⟩⟩⟩ := h
  exact ⟨A4, c4, A5, c5, A6, c6, rfl, ⟨g4, l4⟩, ⟨g5, l5⟩, ⟨g6, l6⟩⟩
theorem k31_mk (w : World) (m : Img) {A4 A5 A6 : Option Addr} {c4 c5 c6 : Nat} (h : ImgV w m A4 c4 A5 c5 A6 c6) : k31.K w m [.int .i64 m.runs, .int .i64 m.made, .int .i64 m.seq, .int .i64 m.now, .slice A4 m.types.length c4, .slice A5 m.saved.length c5, .slice A6 m.seens.length c6] :=
  ⟨[.int .i64 m.runs], _, rfl, rfl, ⟨[.int .i64 m.made], _, rfl, rfl, ⟨[.int .i64 m.seq], _, rfl, rfl, ⟨[.int .i64 m.now], _, rfl, rfl, ⟨[.slice A4 m.types.length c4], _, rfl, ⟨A4, c4, rfl, h.1.2, h.1.1⟩, ⟨[.slice A5 m.saved.length c5], [.slice A6 m.seens.length c6], rfl, ⟨A5, c5, rfl, h.2.1.2, h.2.1.1⟩, ⟨A6, c6, rfl, h.2.2.2, h.2.2.1⟩⟩⟩⟩⟩⟩⟩
theorem at31 {w : World} {A : Option Addr} {xs : List Img} (h : Kd.C k31 w A xs.length xs) (i : Nat) (hi : i < xs.length) : ∃ ad A4 c4 A5 c5 A6 c6, A = some ad ∧ ImgV w xs[i] A4 c4 A5 c5 A6 c6 ∧
    w.cell? (ad.add (i * 7)) = some (.int .i64 xs[i].runs) ∧ w.cell? ⟨(ad.add (i * 7)).block, (ad.add (i * 7)).off + 1, none⟩ = some (.int .i64 xs[i].made) ∧ w.cell? ⟨(ad.add (i * 7)).block, (ad.add (i * 7)).off + 2, none⟩ = some (.int .i64 xs[i].seq) ∧ w.cell? ⟨(ad.add (i * 7)).block, (ad.add (i * 7)).off + 3, none⟩ = some (.int .i64 xs[i].now) ∧
    w.cell? ⟨(ad.add (i * 7)).block, (ad.add (i * 7)).off + 4, none⟩ = some (.slice A4 xs[i].types.length c4) ∧ w.cell? ⟨(ad.add (i * 7)).block, (ad.add (i * 7)).off + 5, none⟩ = some (.slice A5 xs[i].saved.length c5) ∧ w.cell? ⟨(ad.add (i * 7)).block, (ad.add (i * 7)).off + 6, none⟩ = some (.slice A6 xs[i].seens.length c6) := by
  obtain ⟨ad, c, e, _, hK, hc0⟩ := Kd.C_get h zImg (i : Int) (by omega) (by omega)
  have hg : xs.getD ((i : Int).toNat) zImg = xs[i] := by simp [List.getD_eq_getElem?_getD, List.getElem?_eq_getElem hi]
  rw [hg] at hK
  have hc : ∀ j u, c[j]? = some u → w.cell? (ad.add (i * 7 + j)) = some u := hc0
  obtain ⟨A4, c4, A5, c5, A6, c6, rfl, hV⟩ := k31_open hK
  exact ⟨ad, A4, c4, A5, c5, A6, c6, e, hV, hc 0 _ rfl, by rw [← add_field _ _ 1 (by omega)]; exact hc 1 _ rfl, by rw [← add_field _ _ 2 (by omega)]; exact hc 2 _ rfl, by rw [← add_field _ _ 3 (by omega)]; exact hc 3 _ rfl, by rw [← add_field _ _ 4 (by omega)]; exact hc 4 _ rfl, by rw [← add_field _ _ 5 (by omega)]; exact hc 5 _ rfl, by rw [← add_field _ _ 6 (by omega)]; exact hc 6 _ rfl⟩
theorem at33 {w : World} {A : Option Addr} {xs : List (List Int)} (h : Kd.C (Kd.slice 5 (Kd.int .u8)) w A xs.length xs) (i : Nat) (hi : i < xs.length) : ∃ ad A0 c0, A = some ad ∧ w.cell? (ad.add i) = some (.slice A0 xs[i].length c0) ∧ BytesAt w A0 c0 xs[i] := by
  obtain ⟨ad, c, e, _, hK, hc0⟩ := Kd.C_get h ([] : List Int) (i : Int) (by omega) (by omega)
  have hg : xs.getD ((i : Int).toNat) [] = xs[i] := by simp [List.getD_eq_getElem?_getD, List.getElem?_eq_getElem hi]
  rw [hg] at hK
  obtain ⟨A0, c1, rfl, l1, g1⟩ := hK
  have hz : (Kd.slice 5 (Kd.int .u8)).sz = 1 := rfl
  rw [hz] at hc0
  have hc := hc0 0 _ rfl
  rw [Nat.add_zero, Nat.mul_one] at hc
  exact ⟨ad, A0, c1, e, hc, g1, l1⟩
theorem loaded_B {L : List Int} (hB : Bytes L) : ImgB (loadF L).1 := by
  by_cases hf : (loadF L).2 = 0
  · have hF : loadF L = ((loadF L).1, 0) := by rw [← hf]
    obtain ⟨hI, hs⟩ := load_I hB hF
    obtain ⟨h0, _⟩ := load_ok hF
    obtain ⟨h1, hb, _⟩ := save_zero h0
    obtain ⟨_, _, hs2⟩ := may_all hI h1 hb
    unfold mayB at h1
    simp only [Bool.and_eq_true, decide_eq_true_eq, List.all_eq_true] at h1
    obtain ⟨_, _, m3, _, m5, m6, m7, m8, m9⟩ := h1
    refine imgB_of (by omega) (by omega) (by omega) (fun x hx => ?_) (fun x hx => ?_)
    · have := m7 x hx
      unfold typeB at this
      simp only [Bool.and_eq_true, decide_eq_true_eq] at this
      omega
    · have := (hs2 x hx).2.1
      unfold faultN at this
      by_cases hl : x.f1.f2.length ≤ 16
      · omega
      · rw [if_neg hl] at this
        split at this
        · split at this <;> exact absurd this (by decide)
        · exact absurd this (by decide)
  · rw [load_bad hf]
    exact zero_B
theorem rloaded_any {W : World} {A : Option Addr} {c : Nat} {L : List Int} {n : Img} {f : Int} (hA : BytesAt W A c L) (hB : Bytes L) (hL : L.length ≤ 67108864) (h : loadF L = (n, f)) :
    Calls Tryz.prog 13 #[.slice A L.length c] W (fun e w' => ∃ A4 c4 A5 c5 A6 c6, e = .returned (.tuple #[imgV n (.slice A4 n.types.length c4) (.slice A5 n.saved.length c5) (.slice A6 n.seens.length c6), .int .i64 f]) ∧ ImgV w' n A4 c4 A5 c5 A6 c6 ∧ Below W.heap.size W w') := by
  refine (rLoad_any hA.1 hA.2 hB (by omega)).mono ?_
  intro e w' h1
  have := h1.read
  rw [h] at this
  exact this
theorem rsaved_any {W : World} {m : Img} {A4 A5 A6 : Option Addr} {c4 c5 c6 : Nat} {S : List Int} {e0 : Int} (hm : ImgI m) (hV : ImgV W m A4 c4 A5 c5 A6 c6) (hl : m.seens.length ≤ 100000000) (hS : saveB m = S) (hE : saveE m = e0) :
    Calls Tryz.prog 8 #[imgV m (.slice A4 m.types.length c4) (.slice A5 m.saved.length c5) (.slice A6 m.seens.length c6)] W (fun e w' => ∃ A c, e = .returned (.tuple #[.slice A S.length c, .int .i64 e0]) ∧ BytesAt w' A c S ∧ Below W.heap.size W w') := by
  subst hS hE
  exact rSave_any hm hV hl
theorem same_any' {w : World} {A0 A1 : Option Addr} {c0 c1 : Nat} {l : List Int} (hl : l.length ≤ 4611686018427387904) (h0 : BytesAt w A0 c0 l) (h1 : BytesAt w A1 c1 l) :
    Calls Tryz.prog 9 #[.slice A0 l.length c0, .slice A1 l.length c1] w fun e w' => e = .returned (.bool true) ∧ Below w.heap.size w w' := by
  refine (same_any hl h0.1 h0.2 h1.1 h1.2).mono ?_
  rintro e w' ⟨h1, h2⟩
  exact ⟨h1, h2.below⟩
end Go.Proofs.YtcfgmkmllcfjjaaGreatDoor
