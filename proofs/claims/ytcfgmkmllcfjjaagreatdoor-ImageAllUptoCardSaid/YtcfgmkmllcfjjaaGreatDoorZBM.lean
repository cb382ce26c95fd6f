import Derived.Test.YtcfgmkmllcfjjaaGreatDoorZBL
import Derived.Test.YtcfgmkmllcfjjaaGreatDoorZAT
set_option linter.unusedVariables false
set_option linter.unusedSimpArgs false
namespace Go.Proofs.YtcfgmkmllcfjjaaGreatDoor
open Go.RowKit Go.Proofs.YtcfgmkmllcfjjaaGreatDoorW.PrintWords Go.Proofs.YtcfgmkmllcfjjaaGreatDoorW.PrintMore PImageAll
structure ImgP (m : Img) : Prop where
  I : ImgI m
  B : ImgB m
  L : ImgL m
  s : m.seens.length ≤ 100000000
theorem twin_any' {w : World} {m : Img} {A4 A5 A6 : Option Addr} {c4 c5 c6 nT nQ nN : Nat} (hL : ImgL m) (hV : ImgV w m A4 c4 A5 c5 A6 c6) (hnT : nT = m.types.length + 6) (hnQ : nQ = m.saved.length + 6) (hnN : nN = m.seens.length + 6) :
    Calls Tryz.prog 6 #[imgV m (.slice A4 m.types.length c4) (.slice A5 m.saved.length c5) (.slice A6 m.seens.length c6)] w fun e w' => ∃ g4 g5 g6, e = .returned (imgV m (.slice (some ⟨g4, 0, none⟩) m.types.length nT) (.slice (some ⟨g5, 0, none⟩) m.saved.length nQ) (.slice (some ⟨g6, 0, none⟩) m.seens.length nN)) ∧ Twn w.heap.size w' m g4 g5 g6 ∧ Below w.heap.size w w' := by
  subst hnT hnQ hnN
  exact twin_any hL hV
set_option maxRecDepth 100000 in
set_option maxHeartbeats 8000000 in
theorem ImageAll_any {w : World} {Ms : List Img} {Ls : List (List Int)} {A B : Option Addr} {c d : Nat} (hG : GW w) (hM : Kd.C k31 w A Ms.length Ms) (hMs : ∀ m ∈ Ms, ImgP m) (hMl : Ms.length ≤ 1000000000000)
    (hR : Kd.C (Kd.slice 5 (Kd.int .u8)) w B Ls.length Ls) (hLs : ∀ L ∈ Ls, Bytes L ∧ L.length ≤ 67108864) (hLl : Ls.length ≤ 1000000000000) :
    Calls Tryz.prog 3 #[.slice A Ms.length c, .slice B Ls.length d] w fun e w' => e = .returned (.bool true) ∧ Below w.heap.size w w' := by
  have HG := Lib.hid hG
  have HM := Lib.hid hM
  have HMs := Lib.hid hMs
  have HR := Lib.hid hR
  have HLs := Lib.hid hLs
  clear hG hM hMs hR hLs
  go_enter Tryz.func3, Tryz.ntmps3
  go_upto_region 4 with (go_at_call 5; refine (begun_any w HG.out).mono ?_; rintro e w1 ⟨rfl, hB1⟩)
  have HB1 := Lib.hid hB1
  clear hB1
  go_loopw [5] (fun t5 wr => ∃ i : Nat, i ≤ Ms.length ∧ t5 = .int .i64 i ∧ Hid (Below w.heap.size w wr)) (fun t5 _ => Ms.length - (intOf t5).toNat)
  case atStart => exact ⟨0, by omega, rfl, HB1⟩
  case round =>
    obtain ⟨i, hi, rfl, hB⟩ := hrel
    by_cases hlt : i < Ms.length
    · have i1 : (0 : Int) ≤ (i : Int) := by omega
      have i2 : (i : Int) < (Ms.length : Int) := by omega
      obtain ⟨ad, A4, c4, A5, c5, A6, c6, e, hV, d0, d1, d2, d3, d4, d5, d6⟩ := at31 HM.out i hlt
      have HP := Lib.hid (HMs.out _ (List.getElem_mem hlt))
      subst e
      generalize Ms[i] = m at *
      have HD := Lib.hid (show ∀ W, Below w.heap.size w W → W.cell? (ad.add (i * 7)) = some (.int .i64 m.runs) ∧ W.cell? ⟨(ad.add (i * 7)).block, (ad.add (i * 7)).off + 1, none⟩ = some (.int .i64 m.made) ∧ W.cell? ⟨(ad.add (i * 7)).block, (ad.add (i * 7)).off + 2, none⟩ = some (.int .i64 m.seq) ∧ W.cell? ⟨(ad.add (i * 7)).block, (ad.add (i * 7)).off + 3, none⟩ = some (.int .i64 m.now) ∧
    W.cell? ⟨(ad.add (i * 7)).block, (ad.add (i * 7)).off + 4, none⟩ = some (.slice A4 m.types.length c4) ∧ W.cell? ⟨(ad.add (i * 7)).block, (ad.add (i * 7)).off + 5, none⟩ = some (.slice A5 m.saved.length c5) ∧ W.cell? ⟨(ad.add (i * 7)).block, (ad.add (i * 7)).off + 6, none⟩ = some (.slice A6 m.seens.length c6) from fun W h => ⟨pw_cell_below h d0, pw_cell_below h d1, pw_cell_below h d2, pw_cell_below h d3, pw_cell_below h d4, pw_cell_below h d5, pw_cell_below h d6⟩)
      clear d0 d1 d2 d3 d4 d5 d6
      obtain ⟨d0, d1, d2, d3, d4, d5, d6⟩ := HD.out _ hB.out
      obtain ⟨nT, hnT⟩ : ∃ n, n = m.types.length + 6 := ⟨_, rfl⟩
      obtain ⟨nQ, hnQ⟩ : ∃ n, n = m.saved.length + 6 := ⟨_, rfl⟩
      obtain ⟨nN, hnN⟩ : ∃ n, n = m.seens.length + 6 := ⟨_, rfl⟩
      have HTW := Lib.hid (twin_any' HP.out.L (hV.below hB.out) hnT hnQ hnN)
      have HV := Lib.hid hV
      have HnT := Lib.hid (And.intro hnT (And.intro hnQ hnN))
      clear hV hnT hnQ hnN
      unfold imgV at HTW
      go_upto_region 7 with (go_at_call 6; refine HTW.out.mono ?_; rintro e w2 ⟨g4, g5, g6, rfl, hTw, hB2⟩)
      have hbn := below_new w2 (.cells #[.int .i64 m.runs, .int .i64 m.made, .int .i64 m.seq, .int .i64 m.now, .slice (some ⟨g4, 0, none⟩) m.types.length nT, .slice (some ⟨g5, 0, none⟩) m.saved.length nQ, .slice (some ⟨g6, 0, none⟩) m.seens.length nN] 31)
      have hbox : IBox _ w2.heap.size m (.slice (some ⟨g4, 0, none⟩) m.types.length nT) (.slice (some ⟨g5, 0, none⟩) m.saved.length nQ) (.slice (some ⟨g6, 0, none⟩) m.seens.length nN) := blk_new w2 (.cells #[.int .i64 m.runs, .int .i64 m.made, .int .i64 m.seq, .int .i64 m.now, .slice (some ⟨g4, 0, none⟩) m.types.length nT, .slice (some ⟨g5, 0, none⟩) m.saved.length nQ, .slice (some ⟨g6, 0, none⟩) m.seens.length nN] 31)
      have HT3 := Lib.hid (hTw.below hbn)
      have HB3 := Lib.hid (below_step hB.out (below_step hB2 hbn))
      clear hTw hB2 hbn HTW d0 d1 d2 d3 d4 d5 d6
      generalize w2.alloc (.cells #[.int .i64 m.runs, .int .i64 m.made, .int .i64 m.seq, .int .i64 m.now, .slice (some ⟨g4, 0, none⟩) m.types.length nT, .slice (some ⟨g5, 0, none⟩) m.saved.length nQ, .slice (some ⟨g6, 0, none⟩) m.seens.length nN] 31) = W3 at *
      have HX3 := Lib.hid hbox
      have x0 := (IBox.cells hbox 0).trans rfl
      have x1 := (IBox.cells hbox 1).trans rfl
      have x2 := (IBox.cells hbox 2).trans rfl
      have x3 := (IBox.cells hbox 3).trans rfl
      have x4 := (IBox.cells hbox 4).trans rfl
      have x5 := (IBox.cells hbox 5).trans rfl
      have x6 := (IBox.cells hbox 6).trans rfl
      clear hbox
      obtain ⟨S, hS⟩ : ∃ S, saveB m = S := ⟨_, rfl⟩
      obtain ⟨E, hE⟩ : ∃ E, saveE m = E := ⟨_, rfl⟩
      have HSV := Lib.hid (saved_any (HG.out.below HB3.out) HP.out.I (show ImgV W3 m (some ⟨g4, 0, none⟩) nT (some ⟨g5, 0, none⟩) nQ (some ⟨g6, 0, none⟩) nN by rw [HnT.out.1, HnT.out.2.1, HnT.out.2.2]; exact HT3.out.reads HP.out.L) HP.out.s hS hE)
      have HRS := Lib.hid (fun (W : World) (h : Below w.heap.size w W) => rsaved_any (W := W) HP.out.I (HV.out.below h) HP.out.s hS hE)
      have HSl := Lib.hid (show S.length ≤ 4611686018427387904 by
        rw [← hS]
        unfold saveB
        split
        · rename_i h
          rw [List.length_append, sumB_len]
          have := (save_zero h).2.2
          omega
        · simp)
      clear hS hE
      unfold imgV at HSV HRS
      go_upto_region 8 with (go_at_call 7; refine HSV.out.mono ?_; rintro e w4 ⟨A7, c7, rfl, hA7, hB4⟩)
      have HB4 := Lib.hid (below_step HB3.out hB4)
      have HA7 := Lib.hid hA7
      have HB34 := Lib.hid hB4
      clear hA7 hB4 x0 x1 x2 x3 x4 x5 x6
      obtain ⟨d0, d1, d2, d3, d4, d5, d6⟩ := HD.out _ HB4.out
      go_upto_region 9 with (go_at_call 8; refine (HRS.out _ HB4.out).mono ?_; rintro e w5 ⟨A8, c8, rfl, hA8, hB5⟩)
      have HB35 := Lib.hid (below_step HB34.out hB5)
      have HB5 := Lib.hid (below_step HB4.out hB5)
      have HA75 := Lib.hid (hB5 |> HA7.out.below)
      have HA8 := Lib.hid hA8
      clear hA8 hB5 d0 d1 d2 d3 d4 d5 d6
      have HSM := Lib.hid (fun (W : World) (h : Below w5.heap.size w5 W) => same_any' HSl.out (HA75.out.below h) (HA8.out.below h))
      have HKP := Lib.hid (fun (W : World) (h : Below w5.heap.size w5 W) => kept_any' HP.out.L HP.out.B ((HT3.out.below HB35.out).below h) (HV.out.below (below_step HB5.out h)) HnT.out.1 HnT.out.2.1 HnT.out.2.2)
      unfold imgV at HKP
      have hbox := blk_below HX3.out HB35.out
      have HKeep := Lib.hid (show ∀ W', Below w5.heap.size w5 W' → (W'.cell? ⟨w2.heap.size, 0, none⟩ = some (.int .i64 m.runs) ∧ W'.cell? ⟨w2.heap.size, 1, none⟩ = some (.int .i64 m.made) ∧ W'.cell? ⟨w2.heap.size, 2, none⟩ = some (.int .i64 m.seq) ∧ W'.cell? ⟨w2.heap.size, 3, none⟩ = some (.int .i64 m.now) ∧ W'.cell? ⟨w2.heap.size, 4, none⟩ = some (.slice (some ⟨g4, 0, none⟩) m.types.length nT) ∧ W'.cell? ⟨w2.heap.size, 5, none⟩ = some (.slice (some ⟨g5, 0, none⟩) m.saved.length nQ) ∧ W'.cell? ⟨w2.heap.size, 6, none⟩ = some (.slice (some ⟨g6, 0, none⟩) m.seens.length nN)) ∧ W'.cell? (ad.add (i * 7)) = some (.int .i64 m.runs) ∧ W'.cell? ⟨(ad.add (i * 7)).block, (ad.add (i * 7)).off + 1, none⟩ = some (.int .i64 m.made) ∧ W'.cell? ⟨(ad.add (i * 7)).block, (ad.add (i * 7)).off + 2, none⟩ = some (.int .i64 m.seq) ∧ W'.cell? ⟨(ad.add (i * 7)).block, (ad.add (i * 7)).off + 3, none⟩ = some (.int .i64 m.now) ∧
    W'.cell? ⟨(ad.add (i * 7)).block, (ad.add (i * 7)).off + 4, none⟩ = some (.slice A4 m.types.length c4) ∧ W'.cell? ⟨(ad.add (i * 7)).block, (ad.add (i * 7)).off + 5, none⟩ = some (.slice A5 m.saved.length c5) ∧ W'.cell? ⟨(ad.add (i * 7)).block, (ad.add (i * 7)).off + 6, none⟩ = some (.slice A6 m.seens.length c6) from fun W h => ⟨⟨(blk_cell (blk_below hbox h) 0).trans rfl, (blk_cell (blk_below hbox h) 1).trans rfl, (blk_cell (blk_below hbox h) 2).trans rfl, (blk_cell (blk_below hbox h) 3).trans rfl, (blk_cell (blk_below hbox h) 4).trans rfl, (blk_cell (blk_below hbox h) 5).trans rfl, (blk_cell (blk_below hbox h) 6).trans rfl⟩, HD.out _ (below_step HB5.out h)⟩)
      clear hbox
      go_region_held3 (fun W' => (W'.cell? ⟨w2.heap.size, 0, none⟩ = some (.int .i64 m.runs) ∧ W'.cell? ⟨w2.heap.size, 1, none⟩ = some (.int .i64 m.made) ∧ W'.cell? ⟨w2.heap.size, 2, none⟩ = some (.int .i64 m.seq) ∧ W'.cell? ⟨w2.heap.size, 3, none⟩ = some (.int .i64 m.now) ∧ W'.cell? ⟨w2.heap.size, 4, none⟩ = some (.slice (some ⟨g4, 0, none⟩) m.types.length nT) ∧ W'.cell? ⟨w2.heap.size, 5, none⟩ = some (.slice (some ⟨g5, 0, none⟩) m.saved.length nQ) ∧ W'.cell? ⟨w2.heap.size, 6, none⟩ = some (.slice (some ⟨g6, 0, none⟩) m.seens.length nN)) ∧ W'.cell? (ad.add (i * 7)) = some (.int .i64 m.runs) ∧ W'.cell? ⟨(ad.add (i * 7)).block, (ad.add (i * 7)).off + 1, none⟩ = some (.int .i64 m.made) ∧ W'.cell? ⟨(ad.add (i * 7)).block, (ad.add (i * 7)).off + 2, none⟩ = some (.int .i64 m.seq) ∧ W'.cell? ⟨(ad.add (i * 7)).block, (ad.add (i * 7)).off + 3, none⟩ = some (.int .i64 m.now) ∧
    W'.cell? ⟨(ad.add (i * 7)).block, (ad.add (i * 7)).off + 4, none⟩ = some (.slice A4 m.types.length c4) ∧ W'.cell? ⟨(ad.add (i * 7)).block, (ad.add (i * 7)).off + 5, none⟩ = some (.slice A5 m.saved.length c5) ∧ W'.cell? ⟨(ad.add (i * 7)).block, (ad.add (i * 7)).off + 6, none⟩ = some (.slice A6 m.seens.length c6)) (first | exact HKeep.out _ (Below.refl _ _) | exact HKeep.out _ (below_drew (Below.refl _ _)) | exact HKeep.out _ (by assumption) | exact HKeep.out _ (below_drew (by assumption))) (first | (go_at_call 9; refine (HSM.out _ (by first | exact below_drew (Below.refl _ _) | assumption)).mono ?_; rintro e w6 ⟨rfl, hb6⟩; have hbk6 : Below w5.heap.size w5 w6 := (by first | exact below_step (below_drew (Below.refl _ _)) hb6 | exact below_step (by assumption) hb6)) | (go_at_call 10; refine (HKP.out _ (by first | exact below_drew (Below.refl _ _) | assumption)).mono ?_; rintro e w7 ⟨rfl, hb7⟩; have hbk7 : Below w5.heap.size w5 w7 := (by first | exact below_step (below_drew (Below.refl _ _)) hb7 | exact below_step (by assumption) hb7)))
      have HBN := Lib.hid (below_step HB5.out hbk7)
      go_wp2_with fail
      go_roundw
      case rel => exact ⟨i + 1, by omega, by go_num, HBN⟩
      case measure => simp [intOf]; omega
    · obtain rfl : i = Ms.length := by omega
      have HB2 := hB
      clear hB hlt hi
      go_upto_region 12 with fail
      go_loopw [11] (fun t11 wr => ∃ i : Nat, i ≤ Ls.length ∧ t11 = .int .i64 i ∧ Hid (Below w.heap.size w wr)) (fun t11 _ => Ls.length - (intOf t11).toNat)
      case atStart => exact ⟨0, by omega, rfl, HB2⟩
      case round =>
        obtain ⟨i, hi, rfl, hB⟩ := hrel
        by_cases hlt : i < Ls.length
        · have i1 : (0 : Int) ≤ (i : Int) := by omega
          have i2 : (i : Int) < (Ls.length : Int) := by omega
          obtain ⟨ad, A0, c0, e, d0, hA⟩ := at33 HR.out i hlt
          have hLB := HLs.out _ (List.getElem_mem hlt)
          subst e
          generalize Ls[i] = L at *
          have HD := Lib.hid (show ∀ W, Below w.heap.size w W → W.cell? (ad.add i) = some (.slice A0 L.length c0) from fun W h => pw_cell_below h d0)
          clear d0
          obtain ⟨n, f, hF⟩ : ∃ n f, loadF L = (n, f) := ⟨_, _, rfl⟩
          have hnB : ImgB n := by have := loaded_B hLB.1; rw [hF] at this; exact this
          obtain ⟨r, hr⟩ : ∃ r, r = (roomL L).length := ⟨_, rfl⟩
          have hr66 : r = L.length + 66 := by rw [hr, roomL_len]
          have HRM := Lib.hid (fun (W : World) (h : Below w.heap.size w W) => roomy_any (hA.below h) (show L.length ≤ 1000000000000 by omega) hr)
          have HLD := Lib.hid (fun (W : World) (A' : Option Addr) (c' : Nat) (h : Below w.heap.size w W) (hA : BytesAt W A' c' L) => loaded_any (HG.out.below h) hA hLB.1 hLB.2 hF)
          have HRL := Lib.hid (fun (W : World) (h : Below w.heap.size w W) => rloaded_any (hA.below h) hLB.1 hLB.2 hF)
          have HNB := Lib.hid hnB
          have HR66 := Lib.hid hr66
          have HRR := Lib.hid hr
          have HLL := Lib.hid hLB.2
          have d0 := HD.out _ hB.out
          clear hA hLB hF hnB hr hr66
          unfold imgV at HLD HRL
          go_upto_region 15 with (go_at_call 11; refine (HRM.out _ hB.out).mono ?_; rintro e w2 ⟨A1, c1, rfl, hA1, hB2⟩)
          have HB3 := Lib.hid (below_step hB.out hB2)
          have HA1 := Lib.hid hA1
          have hA1f : BytesAt w2 A1 c1 L := by
            have h1 := hA1.1
            unfold roomL at h1
            refine ⟨C_front h1, ?_⟩
            have := hA1.2
            rw [roomL_len] at this
            omega
          have sl : ∀ W, (Instr.slice 33 (.slice A1 r c1) none (some (.int .i64 (L.length : Int))) none).run Tryz.prog W = .ok (.slice A1 L.length c1) W := by
            obtain ⟨i0, hi0, _⟩ := Option.map_eq_some_iff.1 info5
            have := cut_to (P := Tryz.prog) 33 5 .i64 Tryz.underlying33 hi0 A1 r c1 (L.length : Int) (by omega) (by have := HR66.out; omega) (by have := hA1.2; have := HRR.out; omega)
            simpa using this
          have HL1 := Lib.hid (HLD.out _ _ _ HB3.out hA1f)
          clear hA1 hA1f hB2 d0
          have d0 := HD.out _ HB3.out
          go_upto_region 16 with (go_at_call 12; refine HL1.out.mono ?_; rintro e w3 ⟨C4, c4, C5, c5, C6, c6, rfl, hC, hB3⟩)
          have hbn3 := below_new w3 (.cells #[.int .i64 n.runs, .int .i64 n.made, .int .i64 n.seq, .int .i64 n.now, .slice C4 n.types.length c4, .slice C5 n.saved.length c5, .slice C6 n.seens.length c6] 31)
          have hbox : IBox _ w3.heap.size n (.slice C4 n.types.length c4) (.slice C5 n.saved.length c5) (.slice C6 n.seens.length c6) := blk_new w3 (.cells #[.int .i64 n.runs, .int .i64 n.made, .int .i64 n.seq, .int .i64 n.now, .slice C4 n.types.length c4, .slice C5 n.saved.length c5, .slice C6 n.seens.length c6] 31)
          have HB34 := Lib.hid (below_step hB3 hbn3)
          have HB4 := Lib.hid (below_step HB3.out HB34.out)
          have HC4 := Lib.hid (hC.below hbn3)
          generalize w3.alloc (.cells #[.int .i64 n.runs, .int .i64 n.made, .int .i64 n.seq, .int .i64 n.now, .slice C4 n.types.length c4, .slice C5 n.saved.length c5, .slice C6 n.seens.length c6] 31) = W4 at *
          generalize w3.heap.size = bm at *
          have HBM := Lib.hid hbox
          clear hbox hC hB3 hbn3 d0 HLD HL1
          have d0 := HD.out _ HB4.out
          go_upto_region 17 with (go_at_call 13; refine (HRL.out _ HB4.out).mono ?_; rintro e w5 ⟨D4, d4, D5, d5, D6, d6, rfl, hC, hB5⟩)
          have hbn5 := below_new w5 (.cells #[.int .i64 n.runs, .int .i64 n.made, .int .i64 n.seq, .int .i64 n.now, .slice D4 n.types.length d4, .slice D5 n.saved.length d5, .slice D6 n.seens.length d6] 31)
          have hbox : IBox _ w5.heap.size n (.slice D4 n.types.length d4) (.slice D5 n.saved.length d5) (.slice D6 n.seens.length d6) := blk_new w5 (.cells #[.int .i64 n.runs, .int .i64 n.made, .int .i64 n.seq, .int .i64 n.now, .slice D4 n.types.length d4, .slice D5 n.saved.length d5, .slice D6 n.seens.length d6] 31)
          have HB46 := Lib.hid (below_step hB5 hbn5)
          have HB6 := Lib.hid (below_step HB4.out HB46.out)
          have HD6 := Lib.hid (hC.below hbn5)
          have HC6 := Lib.hid (HC4.out.below HB46.out)
          have HA6 := Lib.hid (HA1.out.below (below_step HB34.out HB46.out))
          generalize w5.alloc (.cells #[.int .i64 n.runs, .int .i64 n.made, .int .i64 n.seq, .int .i64 n.now, .slice D4 n.types.length d4, .slice D5 n.saved.length d5, .slice D6 n.seens.length d6] 31) = W6 at *
          generalize w5.heap.size = bn at *
          have hbm := blk_below HBM.out HB46.out
          have hbn := hbox
          have HKeep := Lib.hid (show ∀ W', Below W6.heap.size W6 W' → (W'.cell? ⟨bm, 0, none⟩ = some (.int .i64 n.runs) ∧ W'.cell? ⟨bm, 1, none⟩ = some (.int .i64 n.made) ∧ W'.cell? ⟨bm, 2, none⟩ = some (.int .i64 n.seq) ∧ W'.cell? ⟨bm, 3, none⟩ = some (.int .i64 n.now) ∧ W'.cell? ⟨bm, 4, none⟩ = some (.slice C4 n.types.length c4) ∧ W'.cell? ⟨bm, 5, none⟩ = some (.slice C5 n.saved.length c5) ∧ W'.cell? ⟨bm, 6, none⟩ = some (.slice C6 n.seens.length c6)) ∧ (W'.cell? ⟨bn, 0, none⟩ = some (.int .i64 n.runs) ∧ W'.cell? ⟨bn, 1, none⟩ = some (.int .i64 n.made) ∧ W'.cell? ⟨bn, 2, none⟩ = some (.int .i64 n.seq) ∧ W'.cell? ⟨bn, 3, none⟩ = some (.int .i64 n.now) ∧ W'.cell? ⟨bn, 4, none⟩ = some (.slice D4 n.types.length d4) ∧ W'.cell? ⟨bn, 5, none⟩ = some (.slice D5 n.saved.length d5) ∧ W'.cell? ⟨bn, 6, none⟩ = some (.slice D6 n.seens.length d6)) ∧ W'.cell? (ad.add i) = some (.slice A0 L.length c0) from fun W h => ⟨⟨(blk_cell (blk_below hbm h) 0).trans rfl, (blk_cell (blk_below hbm h) 1).trans rfl, (blk_cell (blk_below hbm h) 2).trans rfl, (blk_cell (blk_below hbm h) 3).trans rfl, (blk_cell (blk_below hbm h) 4).trans rfl, (blk_cell (blk_below hbm h) 5).trans rfl, (blk_cell (blk_below hbm h) 6).trans rfl⟩, ⟨(blk_cell (blk_below hbn h) 0).trans rfl, (blk_cell (blk_below hbn h) 1).trans rfl, (blk_cell (blk_below hbn h) 2).trans rfl, (blk_cell (blk_below hbn h) 3).trans rfl, (blk_cell (blk_below hbn h) 4).trans rfl, (blk_cell (blk_below hbn h) 5).trans rfl, (blk_cell (blk_below hbn h) 6).trans rfl⟩, HD.out _ (below_step HB6.out h)⟩)
          have HIM := Lib.hid (fun (W : World) (h : Below W6.heap.size W6 W) => images_any HNB.out (HC6.out.below h) (HD6.out.below h))
          unfold imgV at HIM
          have HRM6 := Lib.hid (fun (W : World) (h : Below W6.heap.size W6 W) => HRM.out W (below_step HB6.out h))
          have HSM := Lib.hid (fun (W : World) (A2 : Option Addr) (c2 : Nat) (h : Below W6.heap.size W6 W) (hA2 : BytesAt W A2 c2 (roomL L)) => show Calls Tryz.prog 9 #[.slice A1 r c1, .slice A2 r c2] W fun e w' => e = .returned (.bool true) ∧ Below W.heap.size W w' by
            have h0 := same_any' (w := W) (l := roomL L) (by rw [roomL_len]; have := HLL.out; omega) (HA6.out.below h) hA2
            rw [← HRR.out] at h0
            exact h0)
          clear hbox hbm hbn hC hB5 hbn5 d0 HRM HRL
          obtain ⟨⟨m0, m1, m2, m3, m4, m5, m6⟩, ⟨n0, n1, n2, n3, n4, n5, n6⟩, d0⟩ := HKeep.out _ (Below.refl _ _)
          go_wp2_with (first | (go_at_call 14; refine (HIM.out _ (Below.refl _ _)).mono ?_; rintro e w7 ⟨rfl, hb7⟩; have d07 := (HKeep.out _ hb7).2.2) | (go_at_call 11; refine (HRM6.out _ hb7).mono ?_; rintro e w8 ⟨A2, c2, rfl, hA2, hb8⟩; have hbk8 := below_step hb7 hb8) | (go_at_call 9; refine (HSM.out _ _ _ hbk8 hA2).mono ?_; rintro e w9 ⟨rfl, hb9⟩; have hbk9 := below_step hbk8 hb9))
          have HBN := Lib.hid (below_step HB6.out hbk9)
          go_roundw
          case rel => exact ⟨i + 1, by omega, by go_num, HBN⟩
          case measure => simp [intOf]; omega
        · obtain rfl : i = Ls.length := by omega
          go_wp2_with fail
          go_ret
          exact ⟨rfl, hB.out⟩
theorem c33 : Tryz.prog.cellsOf 33 = 1 := by kernel_rfl
section
variable {H : Type} {enc : TypeId × Value → H} {w : World} {base : Nat} {spare : Nat → Bool} {held : Bool} {B : Nat}
theorem image_in {fuel : Nat} {cs : List Value} {x : DataW H × List MemPlace} (hB : Rows.uptoBulk x.1 ≤ 1048576) (h : DataW.trod enc Tryz.prog w base spare held fuel 31 cs = some x) :
    ∃ m : Img, k31.K w m cs ∧ ImgP m := by
  obtain ⟨xs, n, rfl, hx, hlen, hl, hf⟩ := DataW.trod_struct Tryz.underlying31 h
  rw [c31] at hlen
  rw [hx] at hB
  obtain ⟨y0, g0, b0⟩ := field_open hl hB hf 0 _ rfl
  obtain ⟨y1, g1, b1⟩ := field_open hl hB hf 1 _ rfl
  obtain ⟨y2, g2, b2⟩ := field_open hl hB hf 2 _ rfl
  obtain ⟨y3, g3, b3⟩ := field_open hl hB hf 3 _ rfl
  obtain ⟨y4, g4, b4⟩ := field_open hl hB hf 4 _ rfl
  obtain ⟨y5, g5, b5⟩ := field_open hl hB hf 5 _ rfl
  rcases cs with _ | ⟨a0, _ | ⟨a1, _ | ⟨a2, _ | ⟨a3, _ | ⟨a4, _ | ⟨a5, _ | ⟨a6, _ | ⟨a7, t⟩⟩⟩⟩⟩⟩⟩⟩ <;> simp at hlen
  obtain ⟨n0, n1, e0, i0, i1⟩ := opts_open b0 g0
  obtain ⟨n2, e1, _, w1⟩ := DataW.trod_int Tryz.underlying2 g1
  obtain ⟨n3, e2, _, w2⟩ := DataW.trod_int Tryz.underlying2 g2
  obtain ⟨A4, ts, q4, e3, h4, l4, C4, S4⟩ := slice_open (d := k56) (S := fun v : S56 => v.f1.length ≤ 1048576) Tryz.underlying27 c56 b3 (Nat.le_refl _) g3 (fun m cs' y hb hy => type_open (Nat.le_refl _) hb hy)
  obtain ⟨A5, qs, q5, e4, h5, l5, C5, S5⟩ := slice_open (d := k60) (S := fun v : S60 => I64 v.f2) Tryz.underlying28 c60 b4 (Nat.le_refl _) g4 (fun m cs' y hb hy => saved_open hb hy)
  obtain ⟨A6, ss, q6, e5, h6, l6, C6, S6⟩ := slice_open (d := k65) (S := fun v : S65 => v.f1.f2.length ≤ 1048576 ∧ ∀ y ∈ v.f1.f2, I64 y.f1) Tryz.underlying29 c65 b5 (Nat.le_refl _) g5 (fun m cs' y hb hy => seen_open (Nat.le_refl _) hb hy)
  simp [c2, c26, c27, c28, c29] at e0 e1 e2 e3 e4 e5
  obtain ⟨rfl, rfl⟩ := e0
  subst e1; subst e2; subst e3; subst e4; subst e5
  refine ⟨⟨n0, n1, n2, n3, ts, qs, ss⟩, k31_mk w ⟨n0, n1, n2, n3, ts, qs, ss⟩ ⟨⟨C4, h4⟩, ⟨C5, h5⟩, ⟨C6, h6⟩⟩, ⟨i0, i1, int_I64 w1, int_I64 w2, S5, fun x hx => (S6 x hx).2, ?_, ?_, ?_, ?_, ?_⟩, imgB_of ?_ ?_ ?_ ?_ ?_, ⟨?_, ?_, ?_, ?_, ?_⟩, ?_⟩
  · show ts.length ≤ _; omega
  · show qs.length ≤ _; omega
  · show ss.length ≤ _; omega
  · exact fun x hx => Nat.le_trans (S4 x hx) (by decide)
  · exact fun x hx => Nat.le_trans (S6 x hx).1 (by decide)
  · show ts.length ≤ _; omega
  · show qs.length ≤ _; omega
  · show ss.length ≤ _; omega
  · exact fun x hx => Nat.le_trans (S4 x hx) (by decide)
  · exact fun x hx => Nat.le_trans (S6 x hx).1 (by decide)
  · show ts.length ≤ _; omega
  · show qs.length ≤ _; omega
  · show ss.length ≤ _; omega
  · exact fun x hx => Nat.le_trans (S4 x hx) (by decide)
  · exact fun x hx => Nat.le_trans (S6 x hx).1 (by decide)
  · show ss.length ≤ _; omega
theorem images_in {fuel : Nat} {cs : List Value} {x : DataW H × List MemPlace} (hB : Rows.uptoBulk x.1 ≤ 1048576) (h : DataW.trod enc Tryz.prog w base spare held fuel 22 cs = some x) :
    ∃ (A : Option Addr) (Ms : List Img) (c : Nat), cs = [.slice A Ms.length c] ∧ Kd.C k31 w A Ms.length Ms ∧ Ms.length ≤ 1048576 ∧ ∀ m ∈ Ms, ImgP m := by
  obtain ⟨A, Ms, c, e, _, hl, hC, hS⟩ := slice_open (d := k31) (S := ImgP) Tryz.underlying22 c31 hB (Nat.le_refl _) h (fun n cs' y hb hy => image_in hb hy)
  exact ⟨A, Ms, c, e, hC, hl, hS⟩
theorem raws_in {fuel : Nat} {cs : List Value} {x : DataW H × List MemPlace} (hB : Rows.uptoBulk x.1 ≤ 1048576) (h : DataW.trod enc Tryz.prog w base spare held fuel 23 cs = some x) :
    ∃ (A : Option Addr) (Ls : List (List Int)) (c : Nat), cs = [.slice A Ls.length c] ∧ Kd.C (Kd.slice 5 (Kd.int .u8)) w A Ls.length Ls ∧ Ls.length ≤ 1048576 ∧ ∀ L ∈ Ls, Bytes L ∧ L.length ≤ 67108864 := by
  obtain ⟨A, Ls, c, e, _, hl, hC, hS⟩ := slice_open (d := Kd.slice 5 (Kd.int .u8)) (S := fun L => Bytes L ∧ L.length ≤ 67108864) Tryz.underlying23 c33 hB (Nat.le_refl _) h (fun n cs' y hb hy => by
    obtain ⟨L, A, c, e, hA, hBy, hL⟩ := bytes_open hb hy
    exact ⟨L, ⟨A, c, e, hA.2, hA.1⟩, hBy, by omega⟩)
  exact ⟨A, Ls, c, e, hC, hl, hS⟩
end
end Go.Proofs.YtcfgmkmllcfjjaaGreatDoor
