import Derived.Test.YtcfgmkmllcfjjaaDoorZInN
import Derived.Test.YtcfgmkmllcfjjaaDoorZInI
set_option linter.unusedVariables false
set_option linter.unusedSimpArgs false
namespace Go.Proofs.YtcfgmkmllcfjjaaDoor
open Go.RowKit Go.Proofs.YtcfgmkmllcfjjaaDoorW.PrintWords Go.Proofs.YtcfgmkmllcfjjaaDoorW.PrintMore PImageForm
theorem ImgV.below {w w' : World} {m : Img} {A4 A5 A6 : Option Addr} {c4 c5 c6 : Nat} (h : ImgV w m A4 c4 A5 c5 A6 c6) (hB : Below w.heap.size w w') : ImgV w' m A4 c4 A5 c5 A6 c6 :=
  ⟨⟨Kd.C_below h.1.1 hB, h.1.2⟩, ⟨Kd.C_below h.2.1.1 hB, h.2.1.2⟩, ⟨Kd.C_below h.2.2.1 hB, h.2.2.2⟩⟩
theorem LoadPost.read {w w' : World} {r : Img × Int} {e : Ending} (h : LoadPost w r e w') : ∃ A4 c4 A5 c5 A6 c6, e = .returned (.tuple #[imgV r.1 (.slice A4 r.1.types.length c4) (.slice A5 r.1.saved.length c5) (.slice A6 r.1.seens.length c6), .int .i64 r.2]) ∧ ImgV w' r.1 A4 c4 A5 c5 A6 c6 ∧ Below w.heap.size w w' := by
  obtain ⟨v4, v5, v6, rfl, ⟨h4, h5, h6⟩, hB⟩ := h
  obtain ⟨A4, c4, rfl, l4, C4⟩ := Kd.R_reads h4
  obtain ⟨A5, c5, rfl, l5, C5⟩ := Kd.R_reads h5
  obtain ⟨A6, c6, rfl, l6, C6⟩ := Kd.R_reads h6
  exact ⟨A4, c4, A5, c5, A6, c6, rfl, ⟨⟨C4, l4⟩, ⟨C5, l5⟩, ⟨C6, l6⟩⟩, hB⟩
theorem SPost.read {w w' : World} {m : Img} {e : Ending} (h : SPost w m e w') : ∃ A c, e = .returned (.tuple #[.slice A (saveB m).length c, .int .i64 (saveE m)]) ∧ Kd.C (Kd.int .u8) w' A (saveB m).length (saveB m) ∧ (saveB m).length ≤ c ∧ Below w.heap.size w w' := by
  obtain ⟨v, rfl, hr, _, hB⟩ := h
  obtain ⟨A, c, rfl⟩ := own_slice hr
  obtain ⟨h1, h2⟩ := BRow.reads (show BRow w' w.heap.size (.slice A (saveB m).length c) (saveB m) from hr)
  exact ⟨A, c, rfl, h2, h1, hB⟩
theorem IBox.cells {W : World} {b : Nat} {m : Img} {v4 v5 v6 : Value} (h : IBox W b m v4 v5 v6) (i : Nat) : W.cell? ⟨b, i, none⟩ = (#[Value.int .i64 m.runs, .int .i64 m.made, .int .i64 m.seq, .int .i64 m.now, v4, v5, v6] : Array Value)[i]? := blk_cell h i
set_option maxRecDepth 100000 in
set_option maxHeartbeats 8000000 in
theorem begun_any (w : World) (hG : GW w) : Calls Tryd.prog 5 #[] w fun e w' => e = .returned (.bool true) ∧ Below w.heap.size w w' := by
  have HG := Lib.hid hG
  clear hG
  have HSM := Lib.hid (small_any w)
  have HSV := Lib.hid (show ∀ (W : World) A4 c4 A5 c5 A6 c6, Below w.heap.size w W → ImgV W smallM A4 c4 A5 c5 A6 c6 → Calls Tryd.prog 6 #[imgV smallM (.slice A4 smallM.types.length c4) (.slice A5 smallM.saved.length c5) (.slice A6 smallM.seens.length c6)] W (fun e w' => ∃ A c, e = .returned (.tuple #[.slice A smallB.length c, .int .i64 0]) ∧ Kd.C (Kd.int .u8) w' A smallB.length smallB ∧ smallB.length ≤ c ∧ Below W.heap.size W w') from fun W A4 c4 A5 c5 A6 c6 hB hV => by
    refine (Save_any (HG.out.below hB) small_I hV (fun _ => by rw [small_laid]; decide)).mono ?_
    intro e w' h
    have := h.read
    rw [small_saveB, small_saveE] at this
    exact this)
  have HLD := Lib.hid (show ∀ (W : World) A c, Below w.heap.size w W → Kd.C (Kd.int .u8) W A smallB.length smallB → smallB.length ≤ c → Calls Tryd.prog 7 #[.slice A smallB.length c] W (fun e w' => ∃ A4 c4 A5 c5 A6 c6, e = .returned (.tuple #[imgV smallM (.slice A4 smallM.types.length c4) (.slice A5 smallM.saved.length c5) (.slice A6 smallM.seens.length c6), .int .i64 0]) ∧ ImgV w' smallM A4 c4 A5 c5 A6 c6 ∧ Below W.heap.size W w') from fun W A c hB hC hc => by
    refine (Load_any (HG.out.below hB) hC hc small_bytes (by rw [small_len]; decide)).mono ?_
    intro e w' h
    have := h.read
    rw [small_load] at this
    exact this)
  have HSA := Lib.hid (fun W A0 c0 A1 c1 h0 h1 h2 h3 => same_any (w := W) (A0 := A0) (A1 := A1) (c0 := c0) (c1 := c1) (l := smallB) (by rw [small_len]; decide) h0 h1 h2 h3)
  have HIM := Lib.hid (fun W A4 a4 A5 a5 A6 a6 B4 b4 B5 b5 B6 b6 h1 h2 => images_any (w := W) (A4 := A4) (A5 := A5) (A6 := A6) (B4 := B4) (B5 := B5) (B6 := B6) (a4 := a4) (a5 := a5) (a6 := a6) (b4 := b4) (b5 := b5) (b6 := b6) small_B h1 h2)
  unfold imgV at *
  generalize smallM = m at *
  generalize smallB = L at *
  go_enter Tryd.func5, Tryd.ntmps5
  go_wp2_with fail
  refine HSM.out.mono ?_
  rintro e1 w1 ⟨A4, c4, A5, c5, A6, c6, A7, c7, rfl, hV1, ⟨hC1, hc1⟩, hB1⟩
  have hb2 := below_new w1 (.cells #[.int .i64 m.runs, .int .i64 m.made, .int .i64 m.seq, .int .i64 m.now, .slice A4 m.types.length c4, .slice A5 m.saved.length c5, .slice A6 m.seens.length c6] 28)
  have hx2 : IBox _ w1.heap.size m (.slice A4 m.types.length c4) (.slice A5 m.saved.length c5) (.slice A6 m.seens.length c6) := blk_new w1 (.cells #[.int .i64 m.runs, .int .i64 m.made, .int .i64 m.seq, .int .i64 m.now, .slice A4 m.types.length c4, .slice A5 m.saved.length c5, .slice A6 m.seens.length c6] 28)
  have HB2 := Lib.hid (below_step hB1 hb2)
  have HV2 := Lib.hid (hV1.below hb2)
  have HC2 := Lib.hid (Kd.C_below hC1 hb2)
  have HX2 := Lib.hid hx2
  have HC1' := Lib.hid hc1
  clear hV1 hC1 hc1 hB1 hb2 hx2
  go_wp2_with fail
  refine (HSV.out _ _ _ _ _ _ _ HB2.out HV2.out).mono ?_
  rintro e3 w3 ⟨A8, c8, rfl, hC8, hc8, hB3⟩
  have HB3 := Lib.hid (below_step HB2.out hB3)
  have HC3 := Lib.hid (Kd.C_below HC2.out hB3)
  have HV3 := Lib.hid (HV2.out.below hB3)
  have HX3 : Hid (IBox w3 w1.heap.size m (.slice A4 m.types.length c4) (.slice A5 m.saved.length c5) (.slice A6 m.seens.length c6)) := Lib.hid (blk_below HX2.out hB3)
  have HC8 := Lib.hid hC8
  have HC8' := Lib.hid hc8
  clear hC8 hc8 hB3
  go_wp2_with fail
  refine (HLD.out _ _ _ HB3.out HC3.out HC1'.out).mono ?_
  rintro e4 w4 ⟨B4, b4, B5, b5, B6, b6, rfl, hV4, hB4⟩
  have hb5 := below_new w4 (.cells #[.int .i64 m.runs, .int .i64 m.made, .int .i64 m.seq, .int .i64 m.now, .slice B4 m.types.length b4, .slice B5 m.saved.length b5, .slice B6 m.seens.length b6] 28)
  have hx5 : IBox _ w4.heap.size m (.slice B4 m.types.length b4) (.slice B5 m.saved.length b5) (.slice B6 m.seens.length b6) := blk_new w4 (.cells #[.int .i64 m.runs, .int .i64 m.made, .int .i64 m.seq, .int .i64 m.now, .slice B4 m.types.length b4, .slice B5 m.saved.length b5, .slice B6 m.seens.length b6] 28)
  have hb35 := below_step hB4 hb5
  have HB5 := Lib.hid (below_step HB3.out hb35)
  have HC5 := Lib.hid (Kd.C_below HC3.out hb35)
  have HD5 := Lib.hid (Kd.C_below HC8.out hb35)
  have HV5 := Lib.hid (HV3.out.below hb35)
  have HU5 := Lib.hid (hV4.below hb5)
  have hx3 := blk_below HX3.out hb35
  have HX5 := Lib.hid hx5
  have HY5 := Lib.hid hx3
  clear hV4 hB4 hb5 hb35 hx5 hx3
  go_wp2_with fail
  refine (HSA.out _ _ _ _ _ HC5.out HC1'.out HD5.out HC8'.out).mono ?_
  rintro e6 w6 ⟨rfl, ⟨n6, rfl⟩⟩
  have y0 := (IBox.cells HY5.out 0).trans rfl
  have y1 := (IBox.cells HY5.out 1).trans rfl
  have y2 := (IBox.cells HY5.out 2).trans rfl
  have y3 := (IBox.cells HY5.out 3).trans rfl
  have y4 := (IBox.cells HY5.out 4).trans rfl
  have y5 := (IBox.cells HY5.out 5).trans rfl
  have y6 := (IBox.cells HY5.out 6).trans rfl
  have hb6 := pw_below_drewN (Below.refl (w4.alloc (.cells #[.int .i64 m.runs, .int .i64 m.made, .int .i64 m.seq, .int .i64 m.now, .slice B4 m.types.length b4, .slice B5 m.saved.length b5, .slice B6 m.seens.length b6] 28)).heap.size (w4.alloc (.cells #[.int .i64 m.runs, .int .i64 m.made, .int .i64 m.seq, .int .i64 m.now, .slice B4 m.types.length b4, .slice B5 m.saved.length b5, .slice B6 m.seens.length b6] 28))) n6
  have HI6 := Lib.hid (HIM.out _ _ _ _ _ _ _ _ _ _ _ _ _ (HV5.out.below hb6) (HU5.out.below hb6))
  have HB6 := Lib.hid (below_step HB5.out hb6)
  clear hb6
  go_wp2_with fail
  refine HI6.out.mono ?_
  rintro e7 w7 ⟨rfl, hB7⟩
  go_wp2_with fail
  go_ret
  exact ⟨rfl, below_step HB6.out hB7⟩
end Go.Proofs.YtcfgmkmllcfjjaaDoor
