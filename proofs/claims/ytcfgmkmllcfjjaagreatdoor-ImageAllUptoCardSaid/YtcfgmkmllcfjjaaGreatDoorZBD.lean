import Derived.Test.YtcfgmkmllcfjjaaGreatDoorZBC
import Derived.Test.YtcfgmkmllcfjjaaGreatDoorZAT
set_option linter.unusedVariables false
set_option linter.unusedSimpArgs false
namespace Go.Proofs.YtcfgmkmllcfjjaaGreatDoor
open Go.RowKit Go.Proofs.YtcfgmkmllcfjjaaGreatDoorW.PrintWords Go.Proofs.YtcfgmkmllcfjjaaGreatDoorW.PrintMore PImageAll
def mayR (m : Img) : Bool := mayB m && !badL m.seens
theorem mayR_eq (m : Img) : mayR m = ((withinB m.runs 1 1024 && (withinB m.made 0 1024 && (withinB m.seq 0 2305843009213693952 && withinB m.now 0 4611686018427387904))) && ((decide (m.types.length ≤ 64) && m.types.all typeB) && (decide (m.saved.length ≤ 64) && (m.saved.all (savedB m.seq) && (seensB m.seq 0 m.seens && !badL m.seens))))) := by
  unfold mayR mayB
  generalize withinB m.runs 1 1024 = b1
  generalize withinB m.made 0 1024 = b2
  generalize withinB m.seq 0 2305843009213693952 = b3
  generalize withinB m.now 0 4611686018427387904 = b4
  generalize decide (m.types.length ≤ 64) = b5
  generalize decide (m.saved.length ≤ 64) = b6
  generalize m.types.all typeB = b7
  generalize m.saved.all (savedB m.seq) = b8
  generalize seensB m.seq 0 m.seens = b9
  generalize badL m.seens = b0
  cases b1 <;> cases b2 <;> cases b3 <;> cases b4 <;> cases b5 <;> cases b6 <;> cases b7 <;> cases b8 <;> cases b9 <;> rfl
theorem rwithin_any (n lo hi : Int) (W : World) : Calls Tryz.prog 53 #[.int .i64 n, .int .i64 lo, .int .i64 hi] W fun e w' => e = .returned (.bool (withinB n lo hi)) ∧ Drawn0 W w' := refrainref22_within.calls n lo hi _ W (within_f n lo hi)
theorem seensB_drop {seq last : Int} {xs : List S65} {k : Nat} (h : k < xs.length) : (seensB seq last (xs.drop k) && !badL (xs.drop k)) = ((decide (last < (xs[k]).f0) && (decide ((xs[k]).f0 ≤ seq) && (faultN (xs[k]).f1 == 0))) && (seensB seq (xs[k]).f0 (xs.drop (k + 1)) && !badL (xs.drop (k + 1)))) := by
  rw [List.drop_eq_getElem_cons h]
  show ((decide (last < (xs[k]).f0) && (decide ((xs[k]).f0 ≤ seq) && seensB seq (xs[k]).f0 (xs.drop (k + 1)))) && !(!(faultN (xs[k]).f1 == 0) || badL (xs.drop (k + 1)))) = _
  generalize decide (last < (xs[k]).f0) = b1
  generalize decide ((xs[k]).f0 ≤ seq) = b2
  generalize (faultN (xs[k]).f1 == 0) = b3
  generalize seensB seq (xs[k]).f0 (xs.drop (k + 1)) = b4
  generalize badL (xs.drop (k + 1)) = b5
  cases b1 <;> cases b2 <;> cases b3 <;> cases b4 <;> cases b5 <;> rfl
set_option maxRecDepth 100000 in
set_option maxHeartbeats 8000000 in
theorem rmay_any {w : World} {m : Img} {A4 A5 A6 : Option Addr} {c4 c5 c6 : Nat} (hm : ImgI m) (hV : ImgV w m A4 c4 A5 c5 A6 c6) :
    Calls Tryz.prog 25 #[imgV m (.slice A4 m.types.length c4) (.slice A5 m.saved.length c5) (.slice A6 m.seens.length c6)] w fun e w' => e = .returned (.bool (mayR m)) ∧ Below w.heap.size w w' := by
  unfold imgV
  generalize hW0 : w.alloc (.cells #[.int .i64 m.runs, .int .i64 m.made, .int .i64 m.seq, .int .i64 m.now, .slice A4 m.types.length c4, .slice A5 m.saved.length c5, .slice A6 m.seens.length c6] 31) = W0
  have HW0 := Lib.hid hW0
  have hb0 : Below w.heap.size w W0 := by rw [← hW0]; exact below_new w _
  have hX : IBox W0 w.heap.size m (.slice A4 m.types.length c4) (.slice A5 m.saved.length c5) (.slice A6 m.seens.length c6) := by rw [← hW0]; exact blk_new w _
  have hV0 := hV.below hb0
  obtain ⟨⟨hC4, hc4⟩, ⟨hC5, hc5⟩, ⟨hC6, hc6⟩⟩ := hV0
  have HB0 := Lib.hid hb0
  have HX := Lib.hid hX
  have HC5 := Lib.hid hC5
  have HC6 := Lib.hid hC6
  have HT := Lib.hid (fun W (hW : Below W0.heap.size W0 W) => rtypes_any (w := W) (Kd.C_below hC4 hW) hc4)
  have HVAL := Lib.hid hm.vals
  have HLV := Lib.hid hm.lv
  have l5 := hm.lq
  have l6 := hm.ls
  have HR := Lib.hid (mayR_eq m)
  have HW1 := Lib.hid (rwithin_any m.runs 1 1024)
  have HW2 := Lib.hid (rwithin_any m.made 0 1024)
  have HW3 := Lib.hid (rwithin_any m.seq 0 2305843009213693952)
  have HW4 := Lib.hid (rwithin_any m.now 0 4611686018427387904)
  have t6 : decide ((m.saved.length : Int) > 64) = !decide (m.saved.length ≤ 64) := by
    by_cases h : m.saved.length ≤ 64
    · rw [decide_eq_true h, decide_eq_false (by omega)]; rfl
    · rw [decide_eq_false h, decide_eq_true (by omega)]; rfl
  have t6' : decide (64 < (m.saved.length : Int)) = !decide (m.saved.length ≤ 64) := t6
  clear t6
  have z0 : W0.cell? ⟨w.heap.size, 0, none⟩ = some (.int .i64 m.runs) := (IBox.cells hX 0).trans rfl
  have z1 : W0.cell? ⟨w.heap.size, 1, none⟩ = some (.int .i64 m.made) := (IBox.cells hX 1).trans rfl
  have z2 : W0.cell? ⟨w.heap.size, 2, none⟩ = some (.int .i64 m.seq) := (IBox.cells hX 2).trans rfl
  have z3 : W0.cell? ⟨w.heap.size, 3, none⟩ = some (.int .i64 m.now) := (IBox.cells hX 3).trans rfl
  have z4 : W0.cell? ⟨w.heap.size, 4, none⟩ = some (.slice A4 m.types.length c4) := (IBox.cells hX 4).trans rfl
  have z5 : W0.cell? ⟨w.heap.size, 5, none⟩ = some (.slice A5 m.saved.length c5) := (IBox.cells hX 5).trans rfl
  generalize withinB m.runs 1 1024 = b1 at *
  generalize withinB m.made 0 1024 = b2 at *
  generalize withinB m.seq 0 2305843009213693952 = b3 at *
  generalize withinB m.now 0 4611686018427387904 = b4 at *
  generalize (decide (m.types.length ≤ 64) && m.types.all typeB) = b5 at *
  generalize decide (m.saved.length ≤ 64) = b6 at *
  generalize hSA : m.saved.all (savedB m.seq) = b7 at *
  generalize hSE : (seensB m.seq 0 m.seens && !badL m.seens) = b8 at *
  have HSA := Lib.hid hSA
  have HSE := Lib.hid hSE
  clear hSA hSE hX hC4 hC5 hC6 hV hb0 hm hW0 hc4
  go_enter Tryz.func25, Tryz.ntmps25
  go_upto_region 1 with fail
  rw [HW0.out]
  cases b1
  · go_wp2_with (go_at_call 53; refine (HW1.out _).mono ?_; rintro e w1 ⟨rfl, ⟨n1, rfl⟩⟩)
    go_ret
    exact ⟨by rw [HR.out]; rfl, below_step HB0.out (by repeat (first | exact Below.refl _ _ | apply below_drew | apply pw_below_drewN))⟩
  cases b2
  · go_wp2_with (first
      | (go_at_call 53; (with_reducible refine (HW1.out _).mono ?_); rintro e w1 ⟨rfl, ⟨n1, rfl⟩⟩)
      | (go_at_call 53; (with_reducible refine (HW2.out _).mono ?_); rintro e w1 ⟨rfl, ⟨n2, rfl⟩⟩))
    go_ret
    exact ⟨by rw [HR.out]; rfl, below_step HB0.out (by repeat (first | exact Below.refl _ _ | apply below_drew | apply pw_below_drewN))⟩
  cases b3
  · go_wp2_with (first
      | (go_at_call 53; (with_reducible refine (HW1.out _).mono ?_); rintro e w1 ⟨rfl, ⟨n1, rfl⟩⟩)
      | (go_at_call 53; (with_reducible refine (HW2.out _).mono ?_); rintro e w1 ⟨rfl, ⟨n2, rfl⟩⟩)
      | (go_at_call 53; (with_reducible refine (HW3.out _).mono ?_); rintro e w1 ⟨rfl, ⟨n3, rfl⟩⟩))
    go_ret
    exact ⟨by rw [HR.out]; rfl, below_step HB0.out (by repeat (first | exact Below.refl _ _ | apply below_drew | apply pw_below_drewN))⟩
  cases b4
  · go_wp2_with (first
      | (go_at_call 53; (with_reducible refine (HW1.out _).mono ?_); rintro e w1 ⟨rfl, ⟨n1, rfl⟩⟩)
      | (go_at_call 53; (with_reducible refine (HW2.out _).mono ?_); rintro e w1 ⟨rfl, ⟨n2, rfl⟩⟩)
      | (go_at_call 53; (with_reducible refine (HW3.out _).mono ?_); rintro e w1 ⟨rfl, ⟨n3, rfl⟩⟩)
      | (go_at_call 53; (with_reducible refine (HW4.out _).mono ?_); rintro e w1 ⟨rfl, ⟨n4, rfl⟩⟩))
    go_ret
    exact ⟨by rw [HR.out]; rfl, below_step HB0.out (by repeat (first | exact Below.refl _ _ | apply below_drew | apply pw_below_drewN))⟩
  go_upto_region 3 with (first
      | (go_at_call 53; (with_reducible refine (HW1.out _).mono ?_); rintro e w1 ⟨rfl, ⟨n1, rfl⟩⟩)
      | (go_at_call 53; (with_reducible refine (HW2.out _).mono ?_); rintro e w1 ⟨rfl, ⟨n2, rfl⟩⟩)
      | (go_at_call 53; (with_reducible refine (HW3.out _).mono ?_); rintro e w1 ⟨rfl, ⟨n3, rfl⟩⟩)
      | (go_at_call 53; (with_reducible refine (HW4.out _).mono ?_); rintro e w1 ⟨rfl, ⟨n4, rfl⟩⟩))
  have hBD : Below W0.heap.size W0 (W0.drewN (n1 + n2 + n3 + n4)) := pw_below_drewN (Below.refl _ _) _
  have HT4 := Lib.hid (HT.out _ hBD)
  have HBD := Lib.hid hBD
  have Z1 := Lib.hid z2
  have Z5 := Lib.hid z5
  have Z6 := Lib.hid (show W0.cell? ⟨w.heap.size, 6, none⟩ = some (.slice A6 m.seens.length c6) from (IBox.cells HX.out 6).trans rfl)
  clear hBD z0 z1 z2 z3 HW1 HW2 HW3 HW4 HT
  cases b5
  · go_wp2_with (go_at_call 54; refine HT4.out.mono ?_; rintro e w5 ⟨rfl, hB5⟩; have HB5 := Lib.hid (below_step HBD.out hB5); clear hB5)
    go_ret
    exact ⟨by rw [HR.out]; rfl, below_step HB0.out HB5.out⟩
  cases b6
  · go_wp2_with (go_at_call 54; refine HT4.out.mono ?_; rintro e w5 ⟨rfl, hB5⟩; have HB5 := Lib.hid (below_step HBD.out hB5); have y5 := pw_cell_below HB5.out Z5.out; clear hB5)
    go_ret
    exact ⟨by rw [HR.out]; rfl, below_step HB0.out HB5.out⟩
  go_wp2_with (go_at_call 54; refine HT4.out.mono ?_; rintro e w5 ⟨rfl, hB5⟩; have HB5 := Lib.hid (below_step HBD.out hB5); have y5 := pw_cell_below HB5.out Z5.out; clear hB5 z4 z5)
  have hR : mayR m = (b7 && b8) := HR.out
  have HR := Lib.hid hR
  clear hR t6'
  go_loopw [3] (fun t3 wr => ∃ k : Nat, k ≤ m.saved.length ∧ t3 = .int .i64 k ∧ Hid (Below W0.heap.size W0 wr) ∧ Hid (∀ q ∈ m.saved.take k, savedB m.seq q = true)) (fun t3 _ => m.saved.length - (intOf t3).toNat)
  case atStart => exact ⟨0, by omega, rfl, HB5, Lib.hid (by simp)⟩
  case round =>
    obtain ⟨k, hk2, rfl, hB, hP⟩ := hrel
    have q1 := pw_cell_below hB.out Z1.out
    have q5 := pw_cell_below hB.out Z5.out
    by_cases hlt : k < m.saved.length
    · have i1 : (0 : Int) ≤ (k : Int) := by omega
      have i2 : (k : Int) < m.saved.length := by omega
      obtain ⟨ad, rfl, e0, e1, e2, e3⟩ := atk60N (Kd.C_below HC5.out hB.out) k hlt hlt
      have hT1 : m.saved.take (k + 1) = m.saved.take k ++ [m.saved[k]] := List.take_succ_eq_append_getElem hlt
      have hmem := List.getElem_mem hlt
      generalize m.saved[k] = y at *
      have hbn := below_new wr (.cells #[.string y.f0, .string y.f1, .int .i64 y.f2, .bool y.f3] 60)
      have hyx := blk_new wr (.cells #[.string y.f0, .string y.f1, .int .i64 y.f2, .bool y.f3] 60)
      have HBN := Lib.hid (below_step hB.out hbn)
      have HYX := Lib.hid hyx
      have HN := Lib.hid (rName_any y.f0 (wr.alloc (.cells #[.string y.f0, .string y.f1, .int .i64 y.f2, .bool y.f3] 60)))
      have HW := Lib.hid (fun W => rwithin_any y.f2 0 m.seq W)
      have hsb : savedB m.seq y = (nameB y.f0 && (decide (y.f1.size ≤ 4096) && withinB y.f2 0 m.seq)) := rfl
      have HF := Lib.hid (fun h : savedB m.seq y = false => show mayR m = false from by
        rw [HR.out, ← HSA.out, show m.saved.all (savedB m.seq) = false from List.all_eq_false.mpr ⟨y, hmem, by rw [h]; decide⟩]
        rfl)
      have HG := Lib.hid (fun h : savedB m.seq y = true => show ∀ q ∈ m.saved.take (k + 1), savedB m.seq q = true from fun q hq => by
        rw [hT1] at hq
        rcases List.mem_append.1 hq with hq | hq
        · exact hP.out q hq
        · rw [List.mem_singleton] at hq; subst hq; exact h)
      have t7 : decide (4096 < (y.f1.size : Int)) = !decide (y.f1.size ≤ 4096) := by
        by_cases h : y.f1.size ≤ 4096
        · rw [decide_eq_true h, decide_eq_false (by omega)]; rfl
        · rw [decide_eq_false h, decide_eq_true (by omega)]; rfl
      clear hbn hyx hT1 hmem hP
      generalize nameB y.f0 = n1 at *
      generalize decide (y.f1.size ≤ 4096) = n2 at *
      generalize withinB y.f2 0 m.seq = n3 at *
      have HSB := Lib.hid hsb
      clear hsb
      cases n1
      · go_wp2_with (go_at_call 55; refine HN.out.mono ?_; rintro e w6 ⟨rfl, hB6⟩; have HB6 := Lib.hid (below_step HBN.out hB6); clear hB6)
        go_ret
        exact ⟨by (rw [HF.out HSB.out]; rfl), below_step HB0.out HB6.out⟩
      cases n2
      · go_wp2_with (go_at_call 55; refine HN.out.mono ?_; rintro e w6 ⟨rfl, hB6⟩; have hx := blk_below HYX.out hB6; have x1 : w6.cell? ⟨wr.heap.size, 1, none⟩ = some (.string y.f1) := (blk_cell hx 1).trans rfl; have HB6 := Lib.hid (below_step HBN.out hB6); clear hB6 hx)
        go_ret
        exact ⟨by (rw [HF.out HSB.out]; rfl), below_step HB0.out HB6.out⟩
      cases n3
      · go_wp2_with (first
          | (go_at_call 55; refine HN.out.mono ?_; rintro e w6 ⟨rfl, hB6⟩; have hx := blk_below HYX.out hB6; have x1 : w6.cell? ⟨wr.heap.size, 1, none⟩ = some (.string y.f1) := (blk_cell hx 1).trans rfl; have x2 : w6.cell? ⟨wr.heap.size, 2, none⟩ = some (.int .i64 y.f2) := (blk_cell hx 2).trans rfl; have HB6 := Lib.hid (below_step HBN.out hB6); have x3 := pw_cell_below HB6.out Z1.out; clear hB6 hx)
          | (go_at_call 53; refine (HW.out _).mono ?_; rintro e w7 ⟨rfl, ⟨n9, rfl⟩⟩))
        go_ret
        exact ⟨by (rw [HF.out HSB.out]; rfl), below_step HB0.out (pw_below_drewN HB6.out _)⟩
      · go_wp2_with (first
          | (go_at_call 55; refine HN.out.mono ?_; rintro e w6 ⟨rfl, hB6⟩; have hx := blk_below HYX.out hB6; have x1 : w6.cell? ⟨wr.heap.size, 1, none⟩ = some (.string y.f1) := (blk_cell hx 1).trans rfl; have x2 : w6.cell? ⟨wr.heap.size, 2, none⟩ = some (.int .i64 y.f2) := (blk_cell hx 2).trans rfl; have HB6 := Lib.hid (below_step HBN.out hB6); have x3 := pw_cell_below HB6.out Z1.out; clear hB6 hx)
          | (go_at_call 53; refine (HW.out _).mono ?_; rintro e w7 ⟨rfl, ⟨n9, rfl⟩⟩))
        go_roundw
        case rel => exact ⟨k + 1, by omega, by go_num, Lib.hid (pw_below_drewN HB6.out _), Lib.hid (HG.out HSB.out)⟩
        case measure => simp [intOf]; omega
    · obtain rfl : k = m.saved.length := by omega
      have h7 : b7 = true := by
        have hP := hP.out
        rw [List.take_length] at hP
        rw [← HSA.out]
        exact List.all_eq_true.mpr hP
      subst h7
      have hR : mayR m = b8 := HR.out
      have HR := Lib.hid hR
      have HBa := hB
      clear hR hP hlt hk2
      go_wp2_with fail
      clear hB q1 q5
      go_loopw [5, 6] (fun t5 t6 wr => ∃ (k : Nat) (last : Int), k ≤ m.seens.length ∧ t6 = .int .i64 k ∧ t5 = .int .i64 last ∧ Hid (Below W0.heap.size W0 wr) ∧ Hid ((seensB m.seq last (m.seens.drop k) && !badL (m.seens.drop k)) = b8)) (fun _ t6 _ => m.seens.length - (intOf t6).toNat)
      case atStart => exact ⟨0, 0, by omega, rfl, rfl, HBa, by rw [List.drop_zero]; exact HSE⟩
      case round =>
        obtain ⟨k, last, hk2, rfl, rfl, hB, hP⟩ := hrel
        have q1 := pw_cell_below hB.out Z1.out
        have q6 := pw_cell_below hB.out Z6.out
        by_cases hlt : k < m.seens.length
        · have i1 : (0 : Int) ≤ (k : Int) := by omega
          have i2 : (k : Int) < m.seens.length := by omega
          obtain ⟨ad, A1, d1, rfl, e0, e1, e2, e3, e4, hd1, hC1⟩ := atk65N (Kd.C_below HC6.out hB.out) k hlt hlt
          have hmem := List.getElem_mem hlt
          have hI := HVAL.out _ hmem
          have hL := HLV.out _ hmem
          have hD := seensB_drop (seq := m.seq) (last := last) hlt
          rw [hP.out] at hD
          obtain ⟨br, hbr⟩ : ∃ br, br = (seensB m.seq (m.seens[k]).f0 (m.seens.drop (k + 1)) && !badL (m.seens.drop (k + 1))) := ⟨_, rfl⟩
          rw [← hbr] at hD
          have HNX := Lib.hid hbr.symm
          clear hbr
          generalize m.seens[k] = y at *
          have hbn := below_new wr (.cells #[.int .i64 y.f0, .string y.f1.f0, .int .i64 y.f1.f1, .slice A1 y.f1.f2.length d1, .bool y.f2] 65)
          have hyx := blk_new wr (.cells #[.int .i64 y.f0, .string y.f1.f0, .int .i64 y.f1.f1, .slice A1 y.f1.f2.length d1, .bool y.f2] 65)
          have HYX := Lib.hid hyx
          have HBN := Lib.hid (below_step hB.out hbn)
          have HEN := Lib.hid (rEncode_any (x := y.f1) (Kd.C_below hC1 hbn) hd1 hL hI)
          have HD := Lib.hid hD
          clear hD hP hI hL hmem hbn hyx hC1 hd1
          by_cases h1 : last < y.f0
          · have u1 : decide (y.f0 ≤ last) = false := decide_eq_false (by omega)
            by_cases h2 : y.f0 ≤ m.seq
            · have u2 : decide (m.seq < y.f0) = false := decide_eq_false (by omega)
              by_cases h3 : faultN y.f1 = 0
              · have HD2 := Lib.hid (show br = b8 from by have h := HD.out; rw [decide_eq_true h1, decide_eq_true h2, h3] at h; exact h.symm)
                have HEN := Lib.hid (show Calls Tryz.prog 56 _ _ (fun e w' => ∃ v, e = .returned (.tuple #[v, .int .i64 0]) ∧ BRow w' _ v (encB y.f1) ∧ Below _ _ w') from by have h := HEN.out; unfold REPost at h; rw [h3] at h; exact h)
                clear h1 h2 h3
                go_wp2_with (go_at_call 56; refine HEN.out.mono ?_; rintro e w9 ⟨v9, rfl, hO9, hB9⟩; have hx := blk_below HYX.out hB9; have x0 : w9.cell? ⟨wr.heap.size, 0, none⟩ = some (.int .i64 y.f0) := (blk_cell hx 0).trans rfl; have HB9 := Lib.hid (below_step HBN.out hB9); have x3 := pw_cell_below HB9.out Z1.out; clear hB9 hx hO9)
                go_roundw
                case rel => exact ⟨k + 1, y.f0, by omega, by go_num, rfl, HB9, Lib.hid (by rw [HNX.out, HD2.out])⟩
                case measure => simp [intOf]; omega
              · have HF8 := Lib.hid (show mayR m = false from by (have h4 : (faultN y.f1 == 0) = false := (by simpa using h3); rw [HR.out, HD.out, h4]; simp))
                have u3 : (faultN y.f1 != 0) = true := by simpa using h3
                have HEN := Lib.hid (show Calls Tryz.prog 56 _ _ (fun e w' => ∃ v, e = .returned (.tuple #[v, .int .i64 (faultN y.f1)]) ∧ BRow w' _ v (encB y.f1) ∧ Below _ _ w') from HEN.out)
                clear h1 h2 h3
                generalize faultN y.f1 = F at *
                go_wp2_with (go_at_call 56; refine HEN.out.mono ?_; rintro e w9 ⟨v9, rfl, hO9, hB9⟩; have hx := blk_below HYX.out hB9; have x0 : w9.cell? ⟨wr.heap.size, 0, none⟩ = some (.int .i64 y.f0) := (blk_cell hx 0).trans rfl; have HB9 := Lib.hid (below_step HBN.out hB9); have x3 := pw_cell_below HB9.out Z1.out; clear hB9 hx hO9)
                go_ret
                exact ⟨by (rw [HF8.out]; rfl), below_step HB0.out HB9.out⟩
            · have u2 : decide (m.seq < y.f0) = true := decide_eq_true (by omega)
              have HF8 := Lib.hid (show mayR m = false from by rw [HR.out, HD.out, decide_eq_false h2]; simp)
              have HEN := Lib.hid (show Calls Tryz.prog 56 _ _ (fun e w' => ∃ v, e = .returned (.tuple #[v, .int .i64 (faultN y.f1)]) ∧ BRow w' _ v (encB y.f1) ∧ Below _ _ w') from HEN.out)
              clear h1 h2
              generalize faultN y.f1 = F at *
              go_wp2_with (go_at_call 56; refine HEN.out.mono ?_; rintro e w9 ⟨v9, rfl, hO9, hB9⟩; have hx := blk_below HYX.out hB9; have x0 : w9.cell? ⟨wr.heap.size, 0, none⟩ = some (.int .i64 y.f0) := (blk_cell hx 0).trans rfl; have HB9 := Lib.hid (below_step HBN.out hB9); have x3 := pw_cell_below HB9.out Z1.out; clear hB9 hx hO9)
              go_ret
              exact ⟨by (rw [HF8.out]; rfl), below_step HB0.out HB9.out⟩
          · have u1 : decide (y.f0 ≤ last) = true := decide_eq_true (by omega)
            have HF8 := Lib.hid (show mayR m = false from by rw [HR.out, HD.out, decide_eq_false h1]; simp)
            have HEN := Lib.hid (show Calls Tryz.prog 56 _ _ (fun e w' => ∃ v, e = .returned (.tuple #[v, .int .i64 (faultN y.f1)]) ∧ BRow w' _ v (encB y.f1) ∧ Below _ _ w') from HEN.out)
            clear h1
            generalize faultN y.f1 = F at *
            go_wp2_with (go_at_call 56; refine HEN.out.mono ?_; rintro e w9 ⟨v9, rfl, hO9, hB9⟩; have hx := blk_below HYX.out hB9; have x0 : w9.cell? ⟨wr.heap.size, 0, none⟩ = some (.int .i64 y.f0) := (blk_cell hx 0).trans rfl; have HB9 := Lib.hid (below_step HBN.out hB9); have x3 := pw_cell_below HB9.out Z1.out; clear hB9 hx hO9)
            go_ret
            exact ⟨by (rw [HF8.out]; rfl), below_step HB0.out HB9.out⟩
        · obtain rfl : k = m.seens.length := by omega
          have h8 : b8 = true := by
            have := hP.out
            rw [List.drop_length] at this
            exact this.symm
          go_wp2_with fail
          go_ret
          exact ⟨by (rw [HR.out, h8]; rfl), below_step HB0.out hB.out⟩
end Go.Proofs.YtcfgmkmllcfjjaaGreatDoor
