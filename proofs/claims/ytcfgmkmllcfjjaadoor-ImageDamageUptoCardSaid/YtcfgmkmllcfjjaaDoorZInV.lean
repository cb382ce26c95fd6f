import Derived.Test.YtcfgmkmllcfjjaaDoorZInQ
set_option linter.unusedVariables false
set_option linter.unusedSimpArgs false
namespace Go.Proofs.YtcfgmkmllcfjjaaDoor
open Go.RowKit Go.Proofs.YtcfgmkmllcfjjaaDoorW.PrintWords Go.Proofs.YtcfgmkmllcfjjaaDoorW.PrintMore PImageForm
set_option maxRecDepth 100000 in
set_option maxHeartbeats 8000000 in
theorem dam_nn {w : World} {m : Img} {A4 A5 A6 : Option Addr} {c4 c5 c6 : Nat} {at0 t0 : Int} (hG : GW w) (hm : ImgI m) (hV : ImgV w m A4 c4 A5 c5 A6 c6) (hl : m.seens.length ≤ 100000000) (hat : I64 at0) (ht0 : 0 ≤ t0) (ht1 : t0 < 256) (hs : at0 < 0) (hz : t0 ≠ 0) :
    Calls Tryd.prog 4 #[imgV m (.slice A4 m.types.length c4) (.slice A5 m.saved.length c5) (.slice A6 m.seens.length c6), .int .i64 at0, .int .u8 t0] w fun e w' => e = .returned (.bool true) ∧ Below w.heap.size w w' := by
  have HBG := Lib.hid (show ∀ W : World, Below w.heap.size w W → Calls Tryd.prog 5 #[] W (fun e w' => e = .returned (.bool true) ∧ Below W.heap.size W w') from fun W hW => begun_any W (hG.below hW))
  have HSM := Lib.hid (fun W : World => small_any W)
  have HSV := Lib.hid (fun (W : World) (hW : Below w.heap.size w W) => saved_any (hG.below hW) hm (hV.below hW) hl (rfl : saveB m = saveB m) (rfl : saveE m = saveE m))
  have HSS := Lib.hid (fun (W : World) B4 b4 B5 b5 B6 b6 (hW : Below w.heap.size w W) (h : ImgV W smallM B4 b4 B5 b5 B6 b6) => saved_any (hG.below hW) small_I h (by show 1 ≤ _; omega) small_saveB small_saveE)
  have HLZ := Lib.hid (fun (W : World) (A : Option Addr) (c : Nat) (L : List Int) (hW : Below w.heap.size w W) (hA : BytesAt W A c L) (hB : Bytes L) (hL : L.length ≤ 67108864) (h : loadF L = (zImg, 32)) => zloaded_any (hG.below hW) hA hB hL h)
  have HLA := Lib.hid (fun (W : World) (A : Option Addr) (c : Nat) (L : List Int) (hW : Below w.heap.size w W) (hA : BytesAt W A c L) (hB : Bytes L) (hL : L.length ≤ 67108864) => loaded_any (n := (loadF L).1) (f := (loadF L).2) (hG.below hW) hA hB hL rfl)
  have HZ := Lib.hid (fun (W : World) B4 b4 B5 b5 B6 b6 (h : ImgV W zImg B4 b4 B5 b5 B6 b6) => zimages_any h)
  have HSum := Lib.hid (fun h : saveE m = 0 => save_summed hm h)
  have HSumS := Lib.hid (show Summed smallB from by rw [← small_saveB]; exact save_summed small_I small_saveE)
  generalize saveB m = S at *
  generalize saveE m = e0 at *
  clear hG hm hV hl
  unfold imgV at *
  generalize smallM = ms at *
  generalize smallB = Ss at *
  go_enter Tryd.func4, Tryd.ntmps4
  go_wp2_with fail
  have hb0 := below_new w (.cells #[.int .i64 m.runs, .int .i64 m.made, .int .i64 m.seq, .int .i64 m.now, .slice A4 m.types.length c4, .slice A5 m.saved.length c5, .slice A6 m.seens.length c6] 28)
  refine (HBG.out _ hb0).mono ?_
  rintro e1 w1 ⟨rfl, hB1⟩
  have hx : IBox _ w.heap.size m (.slice A4 m.types.length c4) (.slice A5 m.saved.length c5) (.slice A6 m.seens.length c6) := blk_new w (.cells #[.int .i64 m.runs, .int .i64 m.made, .int .i64 m.seq, .int .i64 m.now, .slice A4 m.types.length c4, .slice A5 m.saved.length c5, .slice A6 m.seens.length c6] 28)
  have hx1 := blk_below hx hB1
  have HB1 := Lib.hid (below_step hb0 hB1)
  have HX1 := Lib.hid hx1
  clear hx hx1 hb0 hB1
  go_wp2_with fail
  refine (HSM.out _).mono ?_
  rintro e2 w2 ⟨B4, b4, B5, b5, B6, b6, B7, b7, rfl, hV2, _, hB2⟩
  have hb3 := below_new w2 (.cells #[.int .i64 ms.runs, .int .i64 ms.made, .int .i64 ms.seq, .int .i64 ms.now, .slice B4 ms.types.length b4, .slice B5 ms.saved.length b5, .slice B6 ms.seens.length b6] 28)
  have hx3 : IBox _ w2.heap.size ms (.slice B4 ms.types.length b4) (.slice B5 ms.saved.length b5) (.slice B6 ms.seens.length b6) := blk_new w2 (.cells #[.int .i64 ms.runs, .int .i64 ms.made, .int .i64 ms.seq, .int .i64 ms.now, .slice B4 ms.types.length b4, .slice B5 ms.saved.length b5, .slice B6 ms.seens.length b6] 28)
  have hb := below_step hB2 hb3
  have HB4 := Lib.hid (below_step HB1.out hb)
  have HX4 := Lib.hid (blk_below HX1.out hb)
  have HY4 := Lib.hid hx3
  have HV4 := Lib.hid (hV2.below hb3)
  clear hV2 hB2 hb3 hx3 hb
  go_wp2_with fail
  generalize w2.alloc (.cells #[.int .i64 ms.runs, .int .i64 ms.made, .int .i64 ms.seq, .int .i64 ms.now, .slice B4 ms.types.length b4, .slice B5 ms.saved.length b5, .slice B6 ms.seens.length b6] 28) = w4 at *
  generalize w2.heap.size = gs at *
  go_loopw [9] (fun t9 wr => ∃ k : Nat, k ≤ 2 ∧ t9 = .int .i64 k ∧ Hid (Below w4.heap.size w4 wr)) (fun t9 _ => 2 - (intOf t9).toNat)
  case atStart => exact ⟨0, by omega, rfl, Lib.hid (Below.refl _ _)⟩
  case round =>
    obtain ⟨k, hk, rfl, HB⟩ := hrel
    have hy := blk_below HY4.out HB.out
    have y0 := (IBox.cells hy 0).trans rfl
    have y1 := (IBox.cells hy 1).trans rfl
    have y2 := (IBox.cells hy 2).trans rfl
    have y3 := (IBox.cells hy 3).trans rfl
    have y4 := (IBox.cells hy 4).trans rfl
    have y5 := (IBox.cells hy 5).trans rfl
    have y6 := (IBox.cells hy 6).trans rfl
    clear hy
    obtain rfl | rfl | rfl : k = 0 ∨ k = 1 ∨ k = 2 := by omega
    · go_wp2_with fail
      have hb5 := below_step HB.out (below_new wr (.cells #[.int .i64 ms.runs, .int .i64 ms.made, .int .i64 ms.seq, .int .i64 ms.now, .slice B4 ms.types.length b4, .slice B5 ms.saved.length b5, .slice B6 ms.seens.length b6] 28))
      refine (HSS.out _ _ _ _ _ _ _ (below_step HB4.out hb5) (HV4.out.below hb5)).mono ?_
      rintro e5 w5 ⟨A, c, rfl, hA5, hB5⟩
      have HB5 := Lib.hid (below_step hb5 hB5)
      have HA5 := Lib.hid hA5
      clear hA5 hB5 hb5 y0 y1 y2 y3 y4 y5 y6
      have hlo := HSumS.out.lo
      have hhi := HSumS.out.hi
      have hby := HSumS.out.bytes
      have d8 : decide ((Ss.length : Int) < 8) = false := decide_eq_false (by omega)
      have d8n : decide (Ss.length < 8) = false := decide_eq_false (by omega)
      have da : decide (at0 < 0) = true := decide_eq_true (by omega)
      obtain ⟨K, hKe⟩ : ∃ K : Int, K = -(at0 + 1) := ⟨_, rfl⟩
      have hwk : IntKind.i64.wrap (at0 + 1) = at0 + 1 := by rw [IntKind.wrap_i64]; unfold I64 at hat; omega
      have hwn : IntKind.i64.wrap (-(at0 + 1)) = K := by rw [IntKind.wrap_i64]; unfold I64 at hat; omega
      have hK0 : 0 ≤ K := by omega
      clear hKe
      have hln : ¬ (Ss.length : Int) = 0 := by omega
      obtain ⟨ix, hix⟩ : ∃ ix : Nat, Int.tmod K (Ss.length : Int) = (ix : Int) := Int.eq_ofNat_of_zero_le (Int.tmod_nonneg _ hK0)
      have hixl : ix < Ss.length := by have h := Int.tmod_lt_of_pos K (show (0 : Int) < (Ss.length : Int) by omega); omega
      have hRI : ReadsInt w5 .u8 A Ss.length Ss := readsInt_of.2 (Kd.reads_of_C (enc := Value.int .u8) (d := (0 : Int)) (h1 := fun _ => rfl) HA5.out.1)
      have HRI := Lib.hid hRI
      clear hRI
      go_wp2_with (at_builtin; refine print_append_row (w0 := w5) (W := w5) w5.heap.size rfl _ _ 29 5 .u8 1 rfl Tryd.underlying29 info5 (by decide) (.slice none 0 0) [] Ss A Ss.length c rfl rfl (World.ownsRow_nil w5 w5.heap.size 5 1) HRI.out (Below.refl _ _) (Nat.le_refl _) (by simp only [List.length_nil]; omega) ?_; intro v6 w6 hO6 hB6 hg6 _; rw [List.nil_append] at hO6; obtain ⟨g, cap, rfl, hg, _⟩ := hO6.form (by omega); have hat6 := own_at hO6 (ix : Int) (by omega) (by omega); obtain ⟨hc6, hf6⟩ := hat6; rw [Int.toNat_natCast] at hc6 hf6; have HO6 := Lib.hid hO6; have HB6 := Lib.hid hB6; clear hO6 hB6 hg6)
      have hrd : rd Ss (ix : Int) = Ss[ix] := by simp [rd, List.getD_eq_getElem?_getD, List.getElem?_eq_getElem hixl]
      have hbx := hby Ss[ix] (List.getElem_mem hixl)
      have hy7 := xor_u8 hbx.1 hbx.2 ht0 ht1
      rw [hrd]
      have hd7 := damage_one HSumS.out hixl hy7 (xor_ne hbx.1 hbx.2 ht0 ht1 hz)
      generalize bits .xor .u8 Ss[ix] t0 = y at *
      have hst := (own_store HO6.out (ix : Int) y).1
      rw [Int.toNat_natCast] at hst
      have hb7 : Below w5.heap.size w5 (w6.setCell ⟨g, ix, none⟩ (.int .u8 y)) := HB6.out.setCell hg _
      have hBB7 := below_step HB4.out (below_step HB5.out hb7)
      have hA7 : BytesAt (w6.setCell ⟨g, ix, none⟩ (.int .u8 y)) (some ⟨g, 0, none⟩) cap (Ss.set ix y) := by have h : BRow (w6.setCell ⟨g, ix, none⟩ (.int .u8 y)) w5.heap.size (.slice (some ⟨g, 0, none⟩) (Ss.set ix y).length cap) (Ss.set ix y) := (by unfold BRow; rw [List.length_set]; exact hst); exact ⟨h.reads.2, h.reads.1⟩
      have hby7 : Bytes (Ss.set ix y) := fun b hb => by (rcases List.mem_or_eq_of_mem_set hb with hb | rfl; exact hby b hb; exact hy7)
      have hLc := HLZ.out _ _ _ _ hBB7 hA7 hby7 (by rw [List.length_set]; omega) hd7
      rw [List.length_set] at hLc
      refine hLc.mono ?_
      rintro e8 w8 ⟨D4, d4, D5, d5, D6, d6, rfl, hV8, hB8⟩
      have hx9 : IBox _ w8.heap.size zImg (.slice D4 0 d4) (.slice D5 0 d5) (.slice D6 0 d6) := blk_new w8 (.cells #[.int .i64 0, .int .i64 0, .int .i64 0, .int .i64 0, .slice D4 0 d4, .slice D5 0 d5, .slice D6 0 d6] 28)
      have HSZ := Lib.hid (below_step hb7 hB8).size
      have hb9 := below_new w8 (.cells #[.int .i64 0, .int .i64 0, .int .i64 0, .int .i64 0, .slice D4 0 d4, .slice D5 0 d5, .slice D6 0 d6] 28)
      have hb59 := below_step hb7 (below_step hB8 hb9)
      have hI9 := HZ.out _ _ _ _ _ _ _ (hV8.below hb9)
      have tz1 : (t0 != 0) = true := by simpa using hz
      have HX9 := Lib.hid hx9
      have HB59 := Lib.hid hb59
      have HI9 := Lib.hid hI9
      clear hI9 hx9 hb59 hb9 hV8 hB8 hLc hBB7 hA7 hby7 hb7 hst hc6 hf6
      go_wp2_with fail
      refine HI9.out.mono ?_
      rintro e10 w10 ⟨rfl, hB10⟩
      have HX10 := Lib.hid (blk_below HX9.out hB10)
      have HB10 := Lib.hid (below_step HB59.out hB10)
      clear hB10
      have HA10 := Lib.hid (HA5.out.below HB10.out)
      have HRJ := Lib.hid (show ReadsInt w10 .u8 A Ss.length Ss from readsInt_of.2 (Kd.reads_of_C (enc := Value.int .u8) (d := (0 : Int)) (h1 := fun _ => rfl) HA10.out.1))
      obtain ⟨jx, hjx⟩ : ∃ jx : Nat, Int.tmod K ((Ss.length : Int) - 5) = (jx : Int) := Int.eq_ofNat_of_zero_le (Int.tmod_nonneg _ hK0)
      have hjxl : jx + 5 < Ss.length := by have h := Int.tmod_lt_of_pos K (show (0 : Int) < (Ss.length : Int) - 5 by omega); omega
      have hln5 : ¬ (Ss.length : Int) - 5 = 0 := by omega
      obtain ⟨kx, hkx⟩ : ∃ kx : Nat, kx = jx + 1 := ⟨_, rfl⟩
      have hkl : kx < Ss.length := by omega
      have hjl : jx < Ss.length := by omega
      have hjw : IntKind.i64.wrap ((jx : Int) + 1) = (kx : Int) := by rw [show ((jx : Int) + 1) = (kx : Int) by omega]; rw [IntKind.wrap_i64]; omega
      have hkj : ¬ kx = jx := by omega
      have hjk : ¬ jx = kx := by omega
      have HKX := Lib.hid hkx
      have HJXL := Lib.hid hjxl
      clear hkx hjxl
      go_wp2_with (at_builtin; refine print_append_row (w0 := w10) (W := w10) (w10).heap.size rfl _ _ 29 5 .u8 1 rfl Tryd.underlying29 info5 (by decide) (.slice none 0 0) [] Ss A Ss.length c rfl rfl (World.ownsRow_nil w10 (w10).heap.size 5 1) HRJ.out (Below.refl _ _) (Nat.le_refl _) (by simp only [List.length_nil]; omega) ?_; intro v11 w11 hO11 hB11 hg11 _; rw [List.nil_append] at hO11; obtain ⟨g2, cap2, rfl, hg2, _⟩ := hO11.form (by omega); have hat0 := own_at hO11 (jx : Int) (by omega) (by omega); have hat1 := own_at hO11 (kx : Int) (by omega) (by omega); obtain ⟨hc0, hf0⟩ := hat0; obtain ⟨hc1, hf1⟩ := hat1; rw [Int.toNat_natCast] at hc0 hf0 hc1 hf1; have HO11 := Lib.hid hO11; have HB11 := Lib.hid hB11; clear hO11 hB11 hg11)
      go_region_law (fail)
      all_goals
        have hS0 : rd Ss (jx : Int) = Ss[jx] := by simp [rd, List.getD_eq_getElem?_getD, List.getElem?_eq_getElem hjl]
        have hS1 : rd Ss (kx : Int) = Ss[kx] := by simp [rd, List.getD_eq_getElem?_getD, List.getElem?_eq_getElem hkl]
        rw [hS0, hS1]
        have hsw : Ss[jx] ≠ Ss[kx] → loadF ((Ss.set jx Ss[kx]).set kx Ss[jx]) = (zImg, 32) := by (intro hne; have e := HKX.out; have l := HJXL.out; subst e; exact damage_swap HSumS.out (by omega) (by omega) hne)
        have hbj := hby Ss[jx] (List.getElem_mem hjl)
        have hbk := hby Ss[kx] (List.getElem_mem hkl)
        generalize Ss[jx] = va at *
        generalize Ss[kx] = vb at *
        have st := (own_store (own_store HO11.out (jx : Int) vb).1 (kx : Int) va).1
        rw [Int.toNat_natCast, Int.toNat_natCast] at st
        have hb12 : Below (w10).heap.size w10 ((w11.setCell ⟨g2, jx, none⟩ (.int .u8 vb)).setCell ⟨g2, kx, none⟩ (.int .u8 va)).drew := below_drew ((HB11.out.setCell hg2 _).setCell hg2 _)
        have st2 := own_move (w1 := ((w11.setCell ⟨g2, jx, none⟩ (.int .u8 vb)).setCell ⟨g2, kx, none⟩ (.int .u8 va)).drew) st (fun k hk => rfl)
        generalize ((w11.setCell ⟨g2, jx, none⟩ (.int .u8 vb)).setCell ⟨g2, kx, none⟩ (.int .u8 va)).drew = w12 at *
        have hbyD : Bytes ((Ss.set jx vb).set kx va) := fun b hb => by (rcases List.mem_or_eq_of_mem_set hb with hb | rfl; (rcases List.mem_or_eq_of_mem_set hb with hb | rfl; exact hby b hb; exact hbk); exact hbj)
        have hlD : ((Ss.set jx vb).set kx va).length = Ss.length := by rw [List.length_set, List.length_set]
        have rD0 : rd ((Ss.set jx vb).set kx va) (jx : Int) = vb := by simp [rd, List.getD_eq_getElem?_getD, List.getElem?_set, hkj, hjl]
        have rD1 : rd ((Ss.set jx vb).set kx va) (kx : Int) = va := by simp [rd, List.getD_eq_getElem?_getD, List.getElem?_set, hkl]
        generalize (Ss.set jx vb).set kx va = D at *
        have hAD : BytesAt w12 (some ⟨g2, 0, none⟩) cap2 D := by have h : BRow w12 (w10).heap.size (.slice (some ⟨g2, 0, none⟩) D.length cap2) D := (by unfold BRow; rw [hlD]; exact st2); exact ⟨h.reads.2, h.reads.1⟩
        have hBB12 := below_step HB4.out (below_step HB5.out (below_step HB10.out hb12))
        have HST := Lib.hid st2
        have HB12 := Lib.hid hb12
        by_cases hq : va = vb
        · have hLc := HLA.out _ _ _ _ hBB12 hAD hbyD (by rw [hlD]; omega)
          rw [hlD] at hLc
          generalize (loadF D).1 = n13 at *
          generalize (loadF D).2 = f13 at *
          have HLc := Lib.hid hLc
          clear hLc st st2 hb12 hBB12 hAD hc0 hf0 hc1 hf1
          go_wp2_with fail
          refine HLc.out.mono ?_
          rintro e13 w13 ⟨E4, e4, E5, e5, E6, e6, rfl, hV13, hB13⟩
          have hz := blk_below HX10.out (below_step HB12.out hB13)
          have f0 := blk_frozen hz 0
          have f1 := blk_frozen hz 1
          have f2 := blk_frozen hz 2
          have f3 := blk_frozen hz 3
          have f4 := blk_frozen hz 4
          have f5 := blk_frozen hz 5
          have f6 := blk_frozen hz 6
          have x0 := (IBox.cells hz 0).trans rfl
          have x1 := (IBox.cells hz 1).trans rfl
          have x2 := (IBox.cells hz 2).trans rfl
          have x3 := (IBox.cells hz 3).trans rfl
          have x4 := (IBox.cells hz 4).trans rfl
          have x5 := (IBox.cells hz 5).trans rfl
          have x6 := (IBox.cells hz 6).trans rfl
          go_wp2_with fail
          have hlt8 : w8.heap.size < (w10).heap.size := (Array.getElem?_eq_some_iff.1 HX10.out).1
          have hg8 : g2 ≠ w8.heap.size := by omega
          have hst14 := own_move (w1 := (((((((w13.setCell ⟨w8.heap.size, 0, none⟩ (.int .i64 n13.runs)).setCell ⟨w8.heap.size, 1, none⟩ (.int .i64 n13.made)).setCell ⟨w8.heap.size, 2, none⟩ (.int .i64 n13.seq)).setCell ⟨w8.heap.size, 3, none⟩ (.int .i64 n13.now)).setCell ⟨w8.heap.size, 4, none⟩ (.slice E4 n13.types.length e4)).setCell ⟨w8.heap.size, 5, none⟩ (.slice E5 n13.saved.length e5)).setCell ⟨w8.heap.size, 6, none⟩ (.slice E6 n13.seens.length e6))) HST.out (fun k hk => by (have hk2 : g2 = k := (by simpa [Value.ownBlock] using hk); subst hk2; exact (heap7 hg8 _ _ _ _ _ _ _).trans (hB13.block _ (own_lt HST.out _ hk))))
          have hb514 := below7 (below_step HB10.out (below_step HB12.out hB13)) HSZ.out (.int .i64 n13.runs) (.int .i64 n13.made) (.int .i64 n13.seq) (.int .i64 n13.now) (.slice E4 n13.types.length e4) (.slice E5 n13.saved.length e5) (.slice E6 n13.seens.length e6)
          clear f0 f1 f2 f3 f4 f5 f6 x0 x1 x2 x3 x4 x5 x6 hz
          generalize (((((((w13.setCell ⟨w8.heap.size, 0, none⟩ (.int .i64 n13.runs)).setCell ⟨w8.heap.size, 1, none⟩ (.int .i64 n13.made)).setCell ⟨w8.heap.size, 2, none⟩ (.int .i64 n13.seq)).setCell ⟨w8.heap.size, 3, none⟩ (.int .i64 n13.now)).setCell ⟨w8.heap.size, 4, none⟩ (.slice E4 n13.types.length e4)).setCell ⟨w8.heap.size, 5, none⟩ (.slice E5 n13.saved.length e5)).setCell ⟨w8.heap.size, 6, none⟩ (.slice E6 n13.seens.length e6)) = w14 at *
          obtain ⟨cj, fj⟩ := own_at hst14 (jx : Int) (by omega) (by omega)
          obtain ⟨ck, fk⟩ := own_at hst14 (kx : Int) (by omega) (by omega)
          rw [Int.toNat_natCast, rD0] at cj
          rw [Int.toNat_natCast, rD1] at ck
          have q1 : (vb != va) = false := by simp [hq]
          have HB14 := Lib.hid (below_step HB5.out hb514)
          clear hst14 hb514 fj fk hV13 hB13 rD0 rD1 hlt8 hg8
          go_upto_region 26 with fail
          refine reg26_f _ _ _ _ _ _ _ _ _ _ _ _ _ _ _ _ _ _ _ _ _ _ _ _ _ _ _ _ _ _ _ _ _ _ _ _ _ _ _ _ _ _ _ _ _ _ _ _ _ _ _ _ _ _ _ _ _ _ _ _ _ _ _ _ _ _ _ _ _ _ _ _ _ _ _ _ _ _ _ _ _ _ _ _ _ _ _ _ _ _ _ _ _ _ _ _ _ _ _ _ _ _ _ _ _ _ _ _ _ _ _ _ _ _ _ _ _ _ _ _ _ _ (w8.heap.size) g2 Ss.length cap2 jx kx vb va f13 _ (fun W9 => Below w14.heap.size w14 W9) (Int.natCast_nonneg _) (by omega) (Int.natCast_nonneg _) (by omega) hjw q1  (below_drew (Below.refl _ _)) (Lib.hid (fun w9 h9 => ⟨pw_cell_below h9 cj, pw_cell_below h9 ck⟩)) _ ?_
          refine Lib.hid (fun v106 v107 v108 v109 v110 v111 v112 v113 v114 v115 v116 v117 v118 v119 v120 v121 v122 v123 v124 W15 hP15 => ?_)
          have HP15 := Lib.hid hP15
          clear hP15
          go_wp2_with fail
          go_roundw
          case rel => exact ⟨1, by omega, rfl, Lib.hid (below_step HB14.out HP15.out)⟩
          case measure => simp [intOf]
        · have hLc := HLZ.out _ _ _ _ hBB12 hAD hbyD (by rw [hlD]; omega) (hsw hq)
          rw [hlD] at hLc
          have HLc := Lib.hid hLc
          clear hLc st st2 hb12 hBB12 hAD hc0 hf0 hc1 hf1
          go_wp2_with fail
          refine HLc.out.mono ?_
          rintro e13 w13 ⟨E4, e4, E5, e5, E6, e6, rfl, hV13, hB13⟩
          have hz := blk_below HX10.out (below_step HB12.out hB13)
          have f0 := blk_frozen hz 0
          have f1 := blk_frozen hz 1
          have f2 := blk_frozen hz 2
          have f3 := blk_frozen hz 3
          have f4 := blk_frozen hz 4
          have f5 := blk_frozen hz 5
          have f6 := blk_frozen hz 6
          have x0 := (IBox.cells hz 0).trans rfl
          have x1 := (IBox.cells hz 1).trans rfl
          have x2 := (IBox.cells hz 2).trans rfl
          have x3 := (IBox.cells hz 3).trans rfl
          have x4 := (IBox.cells hz 4).trans rfl
          have x5 := (IBox.cells hz 5).trans rfl
          have x6 := (IBox.cells hz 6).trans rfl
          go_wp2_with fail
          have hp : IBox (((((((w13.setCell ⟨w8.heap.size, 0, none⟩ (.int .i64 0)).setCell ⟨w8.heap.size, 1, none⟩ (.int .i64 0)).setCell ⟨w8.heap.size, 2, none⟩ (.int .i64 0)).setCell ⟨w8.heap.size, 3, none⟩ (.int .i64 0)).setCell ⟨w8.heap.size, 4, none⟩ (.slice E4 0 e4)).setCell ⟨w8.heap.size, 5, none⟩ (.slice E5 0 e5)).setCell ⟨w8.heap.size, 6, none⟩ (.slice E6 0 e6)) w8.heap.size zImg (.slice E4 0 e4) (.slice E5 0 e5) (.slice E6 0 e6) := IBox.putz (m := zImg) hz _ _ _
          have hlt8 : w8.heap.size < (w10).heap.size := (Array.getElem?_eq_some_iff.1 HX10.out).1
          have hg8 : g2 ≠ w8.heap.size := by omega
          have hst14 := own_move (w1 := (((((((w13.setCell ⟨w8.heap.size, 0, none⟩ (.int .i64 0)).setCell ⟨w8.heap.size, 1, none⟩ (.int .i64 0)).setCell ⟨w8.heap.size, 2, none⟩ (.int .i64 0)).setCell ⟨w8.heap.size, 3, none⟩ (.int .i64 0)).setCell ⟨w8.heap.size, 4, none⟩ (.slice E4 0 e4)).setCell ⟨w8.heap.size, 5, none⟩ (.slice E5 0 e5)).setCell ⟨w8.heap.size, 6, none⟩ (.slice E6 0 e6))) HST.out (fun k hk => by (obtain rfl : g2 = k := by simpa [Value.ownBlock] using hk); exact (heap7 hg8 _ _ _ _ _ _ _).trans (hB13.block _ (own_lt HST.out _ hk)))
          have hV14 : ImgV (((((((w13.setCell ⟨w8.heap.size, 0, none⟩ (.int .i64 0)).setCell ⟨w8.heap.size, 1, none⟩ (.int .i64 0)).setCell ⟨w8.heap.size, 2, none⟩ (.int .i64 0)).setCell ⟨w8.heap.size, 3, none⟩ (.int .i64 0)).setCell ⟨w8.heap.size, 4, none⟩ (.slice E4 0 e4)).setCell ⟨w8.heap.size, 5, none⟩ (.slice E5 0 e5)).setCell ⟨w8.heap.size, 6, none⟩ (.slice E6 0 e6)) zImg E4 e4 E5 e5 E6 e6 := ⟨⟨⟨rfl, by simp [zImg], fun h => absurd h (Nat.lt_irrefl 0)⟩, hV13.1.2⟩, ⟨⟨rfl, by simp [zImg], fun h => absurd h (Nat.lt_irrefl 0)⟩, hV13.2.1.2⟩, ⟨⟨rfl, by simp [zImg], fun h => absurd h (Nat.lt_irrefl 0)⟩, hV13.2.2.2⟩⟩
          have hb514 := below7 (below_step HB10.out (below_step HB12.out hB13)) HSZ.out (.int .i64 0) (.int .i64 0) (.int .i64 0) (.int .i64 0) (.slice E4 0 e4) (.slice E5 0 e5) (.slice E6 0 e6)
          clear f0 f1 f2 f3 f4 f5 f6 x0 x1 x2 x3 x4 x5 x6 hz
          generalize (((((((w13.setCell ⟨w8.heap.size, 0, none⟩ (.int .i64 0)).setCell ⟨w8.heap.size, 1, none⟩ (.int .i64 0)).setCell ⟨w8.heap.size, 2, none⟩ (.int .i64 0)).setCell ⟨w8.heap.size, 3, none⟩ (.int .i64 0)).setCell ⟨w8.heap.size, 4, none⟩ (.slice E4 0 e4)).setCell ⟨w8.heap.size, 5, none⟩ (.slice E5 0 e5)).setCell ⟨w8.heap.size, 6, none⟩ (.slice E6 0 e6)) = w14 at *
          have z0 : w14.cell? ⟨w8.heap.size, 0, none⟩ = some (.int .i64 0) := (IBox.cells hp 0).trans rfl
          have z1 : w14.cell? ⟨w8.heap.size, 1, none⟩ = some (.int .i64 0) := (IBox.cells hp 1).trans rfl
          have z2 : w14.cell? ⟨w8.heap.size, 2, none⟩ = some (.int .i64 0) := (IBox.cells hp 2).trans rfl
          have z3 : w14.cell? ⟨w8.heap.size, 3, none⟩ = some (.int .i64 0) := (IBox.cells hp 3).trans rfl
          have z4 : w14.cell? ⟨w8.heap.size, 4, none⟩ = some (.slice E4 0 e4) := (IBox.cells hp 4).trans rfl
          have z5 : w14.cell? ⟨w8.heap.size, 5, none⟩ = some (.slice E5 0 e5) := (IBox.cells hp 5).trans rfl
          have z6 : w14.cell? ⟨w8.heap.size, 6, none⟩ = some (.slice E6 0 e6) := (IBox.cells hp 6).trans rfl
          obtain ⟨cj, fj⟩ := own_at hst14 (jx : Int) (by omega) (by omega)
          obtain ⟨ck, fk⟩ := own_at hst14 (kx : Int) (by omega) (by omega)
          rw [Int.toNat_natCast, rD0] at cj
          rw [Int.toNat_natCast, rD1] at ck
          have q1 : (vb != va) = true := by simpa using Ne.symm hq
          have HZI := Lib.hid (fun (W : World) (hW : Below w14.heap.size w14 W) => HZ.out W _ _ _ _ _ _ (hV14.below hW))
          have HB14 := Lib.hid (below_step HB5.out hb514)
          clear hst14 hV14 hb514 hp fj fk hV13 hB13 rD0 rD1 hlt8 hg8
          go_upto_region 26 with fail
          refine reg26_t _ _ _ _ _ _ _ _ _ _ _ _ _ _ _ _ _ _ _ _ _ _ _ _ _ _ _ _ _ _ _ _ _ _ _ _ _ _ _ _ _ _ _ _ _ _ _ _ _ _ _ _ _ _ _ _ _ _ _ _ _ _ _ _ _ _ _ _ _ _ _ _ _ _ _ _ _ _ _ _ _ _ _ _ _ _ _ _ _ _ _ _ _ _ _ _ _ _ _ _ _ _ _ _ _ _ _ _ _ _ _ _ _ _ _ _ _ _ _ _ _ _ (w8.heap.size) g2 Ss.length cap2 jx kx vb va (.int .i64 0) (.int .i64 0) (.int .i64 0) (.int .i64 0) (.slice E4 0 e4) (.slice E5 0 e5) (.slice E6 0 e6) _ (fun W9 => Below w14.heap.size w14 W9) (fun W9 => Below w14.heap.size w14 W9) (Int.natCast_nonneg _) (by omega) (Int.natCast_nonneg _) (by omega) hjw q1 (Lib.hid (fun W9 h9 => (HZI.out W9 h9).mono (fun e9 x9 h => ⟨h.1, below_step h9 h.2⟩))) (below_drew (Below.refl _ _)) (Lib.hid (fun w9 h9 => ⟨pw_cell_below h9 cj, pw_cell_below h9 ck, pw_cell_below h9 z0, pw_cell_below h9 z1, pw_cell_below h9 z2, pw_cell_below h9 z3, pw_cell_below h9 z4, pw_cell_below h9 z5, pw_cell_below h9 z6⟩)) (Lib.hid (fun w9 h9 => ⟨pw_cell_below h9 cj, pw_cell_below h9 ck, pw_cell_below h9 z0, pw_cell_below h9 z1, pw_cell_below h9 z2, pw_cell_below h9 z3, pw_cell_below h9 z4, pw_cell_below h9 z5, pw_cell_below h9 z6⟩)) _ ?_
          refine Lib.hid (fun v106 v107 v108 v109 v110 v111 v112 v113 v114 v115 v116 v117 v118 v119 v120 v121 v122 v123 v124 W15 hP15 => ?_)
          have HP15 := Lib.hid hP15
          clear hP15
          go_wp2_with fail
          go_roundw
          case rel => exact ⟨1, by omega, rfl, Lib.hid (below_step HB14.out HP15.out)⟩
          case measure => simp [intOf]
    · have hx := blk_below HX4.out (below_step HB.out (below_new wr (.cells #[.int .i64 ms.runs, .int .i64 ms.made, .int .i64 ms.seq, .int .i64 ms.now, .slice B4 ms.types.length b4, .slice B5 ms.saved.length b5, .slice B6 ms.seens.length b6] 28)))
      have x0 := (IBox.cells hx 0).trans rfl
      have x1 := (IBox.cells hx 1).trans rfl
      have x2 := (IBox.cells hx 2).trans rfl
      have x3 := (IBox.cells hx 3).trans rfl
      have x4 := (IBox.cells hx 4).trans rfl
      have x5 := (IBox.cells hx 5).trans rfl
      have x6 := (IBox.cells hx 6).trans rfl
      clear hx
      go_wp2_with fail
      have hb5 := below_step HB.out (below_new wr (.cells #[.int .i64 m.runs, .int .i64 m.made, .int .i64 m.seq, .int .i64 m.now, .slice A4 m.types.length c4, .slice A5 m.saved.length c5, .slice A6 m.seens.length c6] 28))
      refine (HSV.out _ (below_step HB4.out hb5)).mono ?_
      rintro e5 w5 ⟨A, c, rfl, hA5, hB5⟩
      have HB5 := Lib.hid (below_step hb5 hB5)
      have HA5 := Lib.hid hA5
      clear hA5 hB5 hb5 y0 y1 y2 y3 y4 y5 y6 x0 x1 x2 x3 x4 x5 x6
      by_cases he : e0 = 0
      · have HS := Lib.hid (HSum.out he)
        subst he
        have hlo := HS.out.lo
        have hhi := HS.out.hi
        have hby := HS.out.bytes
        have d8 : decide ((S.length : Int) < 8) = false := decide_eq_false (by omega)
        have d8n : decide (S.length < 8) = false := decide_eq_false (by omega)
        have da : decide (at0 < 0) = true := decide_eq_true (by omega)
        obtain ⟨K, hKe⟩ : ∃ K : Int, K = -(at0 + 1) := ⟨_, rfl⟩
        have hwk : IntKind.i64.wrap (at0 + 1) = at0 + 1 := by rw [IntKind.wrap_i64]; unfold I64 at hat; omega
        have hwn : IntKind.i64.wrap (-(at0 + 1)) = K := by rw [IntKind.wrap_i64]; unfold I64 at hat; omega
        have hK0 : 0 ≤ K := by omega
        clear hKe
        have hln : ¬ (S.length : Int) = 0 := by omega
        obtain ⟨ix, hix⟩ : ∃ ix : Nat, Int.tmod K (S.length : Int) = (ix : Int) := Int.eq_ofNat_of_zero_le (Int.tmod_nonneg _ hK0)
        have hixl : ix < S.length := by have h := Int.tmod_lt_of_pos K (show (0 : Int) < (S.length : Int) by omega); omega
        have hRI : ReadsInt w5 .u8 A S.length S := readsInt_of.2 (Kd.reads_of_C (enc := Value.int .u8) (d := (0 : Int)) (h1 := fun _ => rfl) HA5.out.1)
        have HRI := Lib.hid hRI
        clear hRI
        go_wp2_with (at_builtin; refine print_append_row (w0 := w5) (W := w5) w5.heap.size rfl _ _ 29 5 .u8 1 rfl Tryd.underlying29 info5 (by decide) (.slice none 0 0) [] S A S.length c rfl rfl (World.ownsRow_nil w5 w5.heap.size 5 1) HRI.out (Below.refl _ _) (Nat.le_refl _) (by simp only [List.length_nil]; omega) ?_; intro v6 w6 hO6 hB6 hg6 _; rw [List.nil_append] at hO6; obtain ⟨g, cap, rfl, hg, _⟩ := hO6.form (by omega); have hat6 := own_at hO6 (ix : Int) (by omega) (by omega); obtain ⟨hc6, hf6⟩ := hat6; rw [Int.toNat_natCast] at hc6 hf6; have HO6 := Lib.hid hO6; have HB6 := Lib.hid hB6; clear hO6 hB6 hg6)
        have hrd : rd S (ix : Int) = S[ix] := by simp [rd, List.getD_eq_getElem?_getD, List.getElem?_eq_getElem hixl]
        have hbx := hby S[ix] (List.getElem_mem hixl)
        have hy7 := xor_u8 hbx.1 hbx.2 ht0 ht1
        rw [hrd]
        have hd7 := damage_one HS.out hixl hy7 (xor_ne hbx.1 hbx.2 ht0 ht1 hz)
        generalize bits .xor .u8 S[ix] t0 = y at *
        have hst := (own_store HO6.out (ix : Int) y).1
        rw [Int.toNat_natCast] at hst
        have hb7 : Below w5.heap.size w5 (w6.setCell ⟨g, ix, none⟩ (.int .u8 y)) := HB6.out.setCell hg _
        have hBB7 := below_step HB4.out (below_step HB5.out hb7)
        have hA7 : BytesAt (w6.setCell ⟨g, ix, none⟩ (.int .u8 y)) (some ⟨g, 0, none⟩) cap (S.set ix y) := by have h : BRow (w6.setCell ⟨g, ix, none⟩ (.int .u8 y)) w5.heap.size (.slice (some ⟨g, 0, none⟩) (S.set ix y).length cap) (S.set ix y) := (by unfold BRow; rw [List.length_set]; exact hst); exact ⟨h.reads.2, h.reads.1⟩
        have hby7 : Bytes (S.set ix y) := fun b hb => by (rcases List.mem_or_eq_of_mem_set hb with hb | rfl; exact hby b hb; exact hy7)
        have hLc := HLZ.out _ _ _ _ hBB7 hA7 hby7 (by rw [List.length_set]; omega) hd7
        rw [List.length_set] at hLc
        refine hLc.mono ?_
        rintro e8 w8 ⟨D4, d4, D5, d5, D6, d6, rfl, hV8, hB8⟩
        have hx9 : IBox _ w8.heap.size zImg (.slice D4 0 d4) (.slice D5 0 d5) (.slice D6 0 d6) := blk_new w8 (.cells #[.int .i64 0, .int .i64 0, .int .i64 0, .int .i64 0, .slice D4 0 d4, .slice D5 0 d5, .slice D6 0 d6] 28)
        have HSZ := Lib.hid (below_step hb7 hB8).size
        have hb9 := below_new w8 (.cells #[.int .i64 0, .int .i64 0, .int .i64 0, .int .i64 0, .slice D4 0 d4, .slice D5 0 d5, .slice D6 0 d6] 28)
        have hb59 := below_step hb7 (below_step hB8 hb9)
        have hI9 := HZ.out _ _ _ _ _ _ _ (hV8.below hb9)
        have tz1 : (t0 != 0) = true := by simpa using hz
        have HX9 := Lib.hid hx9
        have HB59 := Lib.hid hb59
        have HI9 := Lib.hid hI9
        clear hI9 hx9 hb59 hb9 hV8 hB8 hLc hBB7 hA7 hby7 hb7 hst hc6 hf6
        go_wp2_with fail
        refine HI9.out.mono ?_
        rintro e10 w10 ⟨rfl, hB10⟩
        have HX10 := Lib.hid (blk_below HX9.out hB10)
        have HB10 := Lib.hid (below_step HB59.out hB10)
        clear hB10
        have HA10 := Lib.hid (HA5.out.below HB10.out)
        have HRJ := Lib.hid (show ReadsInt w10 .u8 A S.length S from readsInt_of.2 (Kd.reads_of_C (enc := Value.int .u8) (d := (0 : Int)) (h1 := fun _ => rfl) HA10.out.1))
        obtain ⟨jx, hjx⟩ : ∃ jx : Nat, Int.tmod K ((S.length : Int) - 5) = (jx : Int) := Int.eq_ofNat_of_zero_le (Int.tmod_nonneg _ hK0)
        have hjxl : jx + 5 < S.length := by have h := Int.tmod_lt_of_pos K (show (0 : Int) < (S.length : Int) - 5 by omega); omega
        have hln5 : ¬ (S.length : Int) - 5 = 0 := by omega
        obtain ⟨kx, hkx⟩ : ∃ kx : Nat, kx = jx + 1 := ⟨_, rfl⟩
        have hkl : kx < S.length := by omega
        have hjl : jx < S.length := by omega
        have hjw : IntKind.i64.wrap ((jx : Int) + 1) = (kx : Int) := by rw [show ((jx : Int) + 1) = (kx : Int) by omega]; rw [IntKind.wrap_i64]; omega
        have hkj : ¬ kx = jx := by omega
        have hjk : ¬ jx = kx := by omega
        have HKX := Lib.hid hkx
        have HJXL := Lib.hid hjxl
        clear hkx hjxl
        go_wp2_with (at_builtin; refine print_append_row (w0 := w10) (W := w10) (w10).heap.size rfl _ _ 29 5 .u8 1 rfl Tryd.underlying29 info5 (by decide) (.slice none 0 0) [] S A S.length c rfl rfl (World.ownsRow_nil w10 (w10).heap.size 5 1) HRJ.out (Below.refl _ _) (Nat.le_refl _) (by simp only [List.length_nil]; omega) ?_; intro v11 w11 hO11 hB11 hg11 _; rw [List.nil_append] at hO11; obtain ⟨g2, cap2, rfl, hg2, _⟩ := hO11.form (by omega); have hat0 := own_at hO11 (jx : Int) (by omega) (by omega); have hat1 := own_at hO11 (kx : Int) (by omega) (by omega); obtain ⟨hc0, hf0⟩ := hat0; obtain ⟨hc1, hf1⟩ := hat1; rw [Int.toNat_natCast] at hc0 hf0 hc1 hf1; have HO11 := Lib.hid hO11; have HB11 := Lib.hid hB11; clear hO11 hB11 hg11)
        go_region_law (fail)
        all_goals
          have hS0 : rd S (jx : Int) = S[jx] := by simp [rd, List.getD_eq_getElem?_getD, List.getElem?_eq_getElem hjl]
          have hS1 : rd S (kx : Int) = S[kx] := by simp [rd, List.getD_eq_getElem?_getD, List.getElem?_eq_getElem hkl]
          rw [hS0, hS1]
          have hsw : S[jx] ≠ S[kx] → loadF ((S.set jx S[kx]).set kx S[jx]) = (zImg, 32) := by (intro hne; have e := HKX.out; have l := HJXL.out; subst e; exact damage_swap HS.out (by omega) (by omega) hne)
          have hbj := hby S[jx] (List.getElem_mem hjl)
          have hbk := hby S[kx] (List.getElem_mem hkl)
          generalize S[jx] = va at *
          generalize S[kx] = vb at *
          have st := (own_store (own_store HO11.out (jx : Int) vb).1 (kx : Int) va).1
          rw [Int.toNat_natCast, Int.toNat_natCast] at st
          have hb12 : Below (w10).heap.size w10 ((w11.setCell ⟨g2, jx, none⟩ (.int .u8 vb)).setCell ⟨g2, kx, none⟩ (.int .u8 va)).drew := below_drew ((HB11.out.setCell hg2 _).setCell hg2 _)
          have st2 := own_move (w1 := ((w11.setCell ⟨g2, jx, none⟩ (.int .u8 vb)).setCell ⟨g2, kx, none⟩ (.int .u8 va)).drew) st (fun k hk => rfl)
          generalize ((w11.setCell ⟨g2, jx, none⟩ (.int .u8 vb)).setCell ⟨g2, kx, none⟩ (.int .u8 va)).drew = w12 at *
          have hbyD : Bytes ((S.set jx vb).set kx va) := fun b hb => by (rcases List.mem_or_eq_of_mem_set hb with hb | rfl; (rcases List.mem_or_eq_of_mem_set hb with hb | rfl; exact hby b hb; exact hbk); exact hbj)
          have hlD : ((S.set jx vb).set kx va).length = S.length := by rw [List.length_set, List.length_set]
          have rD0 : rd ((S.set jx vb).set kx va) (jx : Int) = vb := by simp [rd, List.getD_eq_getElem?_getD, List.getElem?_set, hkj, hjl]
          have rD1 : rd ((S.set jx vb).set kx va) (kx : Int) = va := by simp [rd, List.getD_eq_getElem?_getD, List.getElem?_set, hkl]
          generalize (S.set jx vb).set kx va = D at *
          have hAD : BytesAt w12 (some ⟨g2, 0, none⟩) cap2 D := by have h : BRow w12 (w10).heap.size (.slice (some ⟨g2, 0, none⟩) D.length cap2) D := (by unfold BRow; rw [hlD]; exact st2); exact ⟨h.reads.2, h.reads.1⟩
          have hBB12 := below_step HB4.out (below_step HB5.out (below_step HB10.out hb12))
          have HST := Lib.hid st2
          have HB12 := Lib.hid hb12
          by_cases hq : va = vb
          · have hLc := HLA.out _ _ _ _ hBB12 hAD hbyD (by rw [hlD]; omega)
            rw [hlD] at hLc
            generalize (loadF D).1 = n13 at *
            generalize (loadF D).2 = f13 at *
            have HLc := Lib.hid hLc
            clear hLc st st2 hb12 hBB12 hAD hc0 hf0 hc1 hf1
            go_wp2_with fail
            refine HLc.out.mono ?_
            rintro e13 w13 ⟨E4, e4, E5, e5, E6, e6, rfl, hV13, hB13⟩
            have hz := blk_below HX10.out (below_step HB12.out hB13)
            have f0 := blk_frozen hz 0
            have f1 := blk_frozen hz 1
            have f2 := blk_frozen hz 2
            have f3 := blk_frozen hz 3
            have f4 := blk_frozen hz 4
            have f5 := blk_frozen hz 5
            have f6 := blk_frozen hz 6
            have x0 := (IBox.cells hz 0).trans rfl
            have x1 := (IBox.cells hz 1).trans rfl
            have x2 := (IBox.cells hz 2).trans rfl
            have x3 := (IBox.cells hz 3).trans rfl
            have x4 := (IBox.cells hz 4).trans rfl
            have x5 := (IBox.cells hz 5).trans rfl
            have x6 := (IBox.cells hz 6).trans rfl
            go_wp2_with fail
            have hlt8 : w8.heap.size < (w10).heap.size := (Array.getElem?_eq_some_iff.1 HX10.out).1
            have hg8 : g2 ≠ w8.heap.size := by omega
            have hst14 := own_move (w1 := (((((((w13.setCell ⟨w8.heap.size, 0, none⟩ (.int .i64 n13.runs)).setCell ⟨w8.heap.size, 1, none⟩ (.int .i64 n13.made)).setCell ⟨w8.heap.size, 2, none⟩ (.int .i64 n13.seq)).setCell ⟨w8.heap.size, 3, none⟩ (.int .i64 n13.now)).setCell ⟨w8.heap.size, 4, none⟩ (.slice E4 n13.types.length e4)).setCell ⟨w8.heap.size, 5, none⟩ (.slice E5 n13.saved.length e5)).setCell ⟨w8.heap.size, 6, none⟩ (.slice E6 n13.seens.length e6))) HST.out (fun k hk => by (have hk2 : g2 = k := (by simpa [Value.ownBlock] using hk); subst hk2; exact (heap7 hg8 _ _ _ _ _ _ _).trans (hB13.block _ (own_lt HST.out _ hk))))
            have hb514 := below7 (below_step HB10.out (below_step HB12.out hB13)) HSZ.out (.int .i64 n13.runs) (.int .i64 n13.made) (.int .i64 n13.seq) (.int .i64 n13.now) (.slice E4 n13.types.length e4) (.slice E5 n13.saved.length e5) (.slice E6 n13.seens.length e6)
            clear f0 f1 f2 f3 f4 f5 f6 x0 x1 x2 x3 x4 x5 x6 hz
            generalize (((((((w13.setCell ⟨w8.heap.size, 0, none⟩ (.int .i64 n13.runs)).setCell ⟨w8.heap.size, 1, none⟩ (.int .i64 n13.made)).setCell ⟨w8.heap.size, 2, none⟩ (.int .i64 n13.seq)).setCell ⟨w8.heap.size, 3, none⟩ (.int .i64 n13.now)).setCell ⟨w8.heap.size, 4, none⟩ (.slice E4 n13.types.length e4)).setCell ⟨w8.heap.size, 5, none⟩ (.slice E5 n13.saved.length e5)).setCell ⟨w8.heap.size, 6, none⟩ (.slice E6 n13.seens.length e6)) = w14 at *
            obtain ⟨cj, fj⟩ := own_at hst14 (jx : Int) (by omega) (by omega)
            obtain ⟨ck, fk⟩ := own_at hst14 (kx : Int) (by omega) (by omega)
            rw [Int.toNat_natCast, rD0] at cj
            rw [Int.toNat_natCast, rD1] at ck
            have q1 : (vb != va) = false := by simp [hq]
            have HB14 := Lib.hid (below_step HB5.out hb514)
            clear hst14 hb514 fj fk hV13 hB13 rD0 rD1 hlt8 hg8
            go_upto_region 26 with fail
            refine reg26_f _ _ _ _ _ _ _ _ _ _ _ _ _ _ _ _ _ _ _ _ _ _ _ _ _ _ _ _ _ _ _ _ _ _ _ _ _ _ _ _ _ _ _ _ _ _ _ _ _ _ _ _ _ _ _ _ _ _ _ _ _ _ _ _ _ _ _ _ _ _ _ _ _ _ _ _ _ _ _ _ _ _ _ _ _ _ _ _ _ _ _ _ _ _ _ _ _ _ _ _ _ _ _ _ _ _ _ _ _ _ _ _ _ _ _ _ _ _ _ _ _ _ (w8.heap.size) g2 S.length cap2 jx kx vb va f13 _ (fun W9 => Below w14.heap.size w14 W9) (Int.natCast_nonneg _) (by omega) (Int.natCast_nonneg _) (by omega) hjw q1  (below_drew (Below.refl _ _)) (Lib.hid (fun w9 h9 => ⟨pw_cell_below h9 cj, pw_cell_below h9 ck⟩)) _ ?_
            refine Lib.hid (fun v106 v107 v108 v109 v110 v111 v112 v113 v114 v115 v116 v117 v118 v119 v120 v121 v122 v123 v124 W15 hP15 => ?_)
            have HP15 := Lib.hid hP15
            clear hP15
            go_wp2_with fail
            go_roundw
            case rel => exact ⟨2, by omega, rfl, Lib.hid (below_step HB14.out HP15.out)⟩
            case measure => simp [intOf]
          · have hLc := HLZ.out _ _ _ _ hBB12 hAD hbyD (by rw [hlD]; omega) (hsw hq)
            rw [hlD] at hLc
            have HLc := Lib.hid hLc
            clear hLc st st2 hb12 hBB12 hAD hc0 hf0 hc1 hf1
            go_wp2_with fail
            refine HLc.out.mono ?_
            rintro e13 w13 ⟨E4, e4, E5, e5, E6, e6, rfl, hV13, hB13⟩
            have hz := blk_below HX10.out (below_step HB12.out hB13)
            have f0 := blk_frozen hz 0
            have f1 := blk_frozen hz 1
            have f2 := blk_frozen hz 2
            have f3 := blk_frozen hz 3
            have f4 := blk_frozen hz 4
            have f5 := blk_frozen hz 5
            have f6 := blk_frozen hz 6
            have x0 := (IBox.cells hz 0).trans rfl
            have x1 := (IBox.cells hz 1).trans rfl
            have x2 := (IBox.cells hz 2).trans rfl
            have x3 := (IBox.cells hz 3).trans rfl
            have x4 := (IBox.cells hz 4).trans rfl
            have x5 := (IBox.cells hz 5).trans rfl
            have x6 := (IBox.cells hz 6).trans rfl
            go_wp2_with fail
            have hp : IBox (((((((w13.setCell ⟨w8.heap.size, 0, none⟩ (.int .i64 0)).setCell ⟨w8.heap.size, 1, none⟩ (.int .i64 0)).setCell ⟨w8.heap.size, 2, none⟩ (.int .i64 0)).setCell ⟨w8.heap.size, 3, none⟩ (.int .i64 0)).setCell ⟨w8.heap.size, 4, none⟩ (.slice E4 0 e4)).setCell ⟨w8.heap.size, 5, none⟩ (.slice E5 0 e5)).setCell ⟨w8.heap.size, 6, none⟩ (.slice E6 0 e6)) w8.heap.size zImg (.slice E4 0 e4) (.slice E5 0 e5) (.slice E6 0 e6) := IBox.putz (m := zImg) hz _ _ _
            have hlt8 : w8.heap.size < (w10).heap.size := (Array.getElem?_eq_some_iff.1 HX10.out).1
            have hg8 : g2 ≠ w8.heap.size := by omega
            have hst14 := own_move (w1 := (((((((w13.setCell ⟨w8.heap.size, 0, none⟩ (.int .i64 0)).setCell ⟨w8.heap.size, 1, none⟩ (.int .i64 0)).setCell ⟨w8.heap.size, 2, none⟩ (.int .i64 0)).setCell ⟨w8.heap.size, 3, none⟩ (.int .i64 0)).setCell ⟨w8.heap.size, 4, none⟩ (.slice E4 0 e4)).setCell ⟨w8.heap.size, 5, none⟩ (.slice E5 0 e5)).setCell ⟨w8.heap.size, 6, none⟩ (.slice E6 0 e6))) HST.out (fun k hk => by (obtain rfl : g2 = k := by simpa [Value.ownBlock] using hk); exact (heap7 hg8 _ _ _ _ _ _ _).trans (hB13.block _ (own_lt HST.out _ hk)))
            have hV14 : ImgV (((((((w13.setCell ⟨w8.heap.size, 0, none⟩ (.int .i64 0)).setCell ⟨w8.heap.size, 1, none⟩ (.int .i64 0)).setCell ⟨w8.heap.size, 2, none⟩ (.int .i64 0)).setCell ⟨w8.heap.size, 3, none⟩ (.int .i64 0)).setCell ⟨w8.heap.size, 4, none⟩ (.slice E4 0 e4)).setCell ⟨w8.heap.size, 5, none⟩ (.slice E5 0 e5)).setCell ⟨w8.heap.size, 6, none⟩ (.slice E6 0 e6)) zImg E4 e4 E5 e5 E6 e6 := ⟨⟨⟨rfl, by simp [zImg], fun h => absurd h (Nat.lt_irrefl 0)⟩, hV13.1.2⟩, ⟨⟨rfl, by simp [zImg], fun h => absurd h (Nat.lt_irrefl 0)⟩, hV13.2.1.2⟩, ⟨⟨rfl, by simp [zImg], fun h => absurd h (Nat.lt_irrefl 0)⟩, hV13.2.2.2⟩⟩
            have hb514 := below7 (below_step HB10.out (below_step HB12.out hB13)) HSZ.out (.int .i64 0) (.int .i64 0) (.int .i64 0) (.int .i64 0) (.slice E4 0 e4) (.slice E5 0 e5) (.slice E6 0 e6)
            clear f0 f1 f2 f3 f4 f5 f6 x0 x1 x2 x3 x4 x5 x6 hz
            generalize (((((((w13.setCell ⟨w8.heap.size, 0, none⟩ (.int .i64 0)).setCell ⟨w8.heap.size, 1, none⟩ (.int .i64 0)).setCell ⟨w8.heap.size, 2, none⟩ (.int .i64 0)).setCell ⟨w8.heap.size, 3, none⟩ (.int .i64 0)).setCell ⟨w8.heap.size, 4, none⟩ (.slice E4 0 e4)).setCell ⟨w8.heap.size, 5, none⟩ (.slice E5 0 e5)).setCell ⟨w8.heap.size, 6, none⟩ (.slice E6 0 e6)) = w14 at *
            have z0 : w14.cell? ⟨w8.heap.size, 0, none⟩ = some (.int .i64 0) := (IBox.cells hp 0).trans rfl
            have z1 : w14.cell? ⟨w8.heap.size, 1, none⟩ = some (.int .i64 0) := (IBox.cells hp 1).trans rfl
            have z2 : w14.cell? ⟨w8.heap.size, 2, none⟩ = some (.int .i64 0) := (IBox.cells hp 2).trans rfl
            have z3 : w14.cell? ⟨w8.heap.size, 3, none⟩ = some (.int .i64 0) := (IBox.cells hp 3).trans rfl
            have z4 : w14.cell? ⟨w8.heap.size, 4, none⟩ = some (.slice E4 0 e4) := (IBox.cells hp 4).trans rfl
            have z5 : w14.cell? ⟨w8.heap.size, 5, none⟩ = some (.slice E5 0 e5) := (IBox.cells hp 5).trans rfl
            have z6 : w14.cell? ⟨w8.heap.size, 6, none⟩ = some (.slice E6 0 e6) := (IBox.cells hp 6).trans rfl
            obtain ⟨cj, fj⟩ := own_at hst14 (jx : Int) (by omega) (by omega)
            obtain ⟨ck, fk⟩ := own_at hst14 (kx : Int) (by omega) (by omega)
            rw [Int.toNat_natCast, rD0] at cj
            rw [Int.toNat_natCast, rD1] at ck
            have q1 : (vb != va) = true := by simpa using Ne.symm hq
            have HZI := Lib.hid (fun (W : World) (hW : Below w14.heap.size w14 W) => HZ.out W _ _ _ _ _ _ (hV14.below hW))
            have HB14 := Lib.hid (below_step HB5.out hb514)
            clear hst14 hV14 hb514 hp fj fk hV13 hB13 rD0 rD1 hlt8 hg8
            go_upto_region 26 with fail
            refine reg26_t _ _ _ _ _ _ _ _ _ _ _ _ _ _ _ _ _ _ _ _ _ _ _ _ _ _ _ _ _ _ _ _ _ _ _ _ _ _ _ _ _ _ _ _ _ _ _ _ _ _ _ _ _ _ _ _ _ _ _ _ _ _ _ _ _ _ _ _ _ _ _ _ _ _ _ _ _ _ _ _ _ _ _ _ _ _ _ _ _ _ _ _ _ _ _ _ _ _ _ _ _ _ _ _ _ _ _ _ _ _ _ _ _ _ _ _ _ _ _ _ _ _ (w8.heap.size) g2 S.length cap2 jx kx vb va (.int .i64 0) (.int .i64 0) (.int .i64 0) (.int .i64 0) (.slice E4 0 e4) (.slice E5 0 e5) (.slice E6 0 e6) _ (fun W9 => Below w14.heap.size w14 W9) (fun W9 => Below w14.heap.size w14 W9) (Int.natCast_nonneg _) (by omega) (Int.natCast_nonneg _) (by omega) hjw q1 (Lib.hid (fun W9 h9 => (HZI.out W9 h9).mono (fun e9 x9 h => ⟨h.1, below_step h9 h.2⟩))) (below_drew (Below.refl _ _)) (Lib.hid (fun w9 h9 => ⟨pw_cell_below h9 cj, pw_cell_below h9 ck, pw_cell_below h9 z0, pw_cell_below h9 z1, pw_cell_below h9 z2, pw_cell_below h9 z3, pw_cell_below h9 z4, pw_cell_below h9 z5, pw_cell_below h9 z6⟩)) (Lib.hid (fun w9 h9 => ⟨pw_cell_below h9 cj, pw_cell_below h9 ck, pw_cell_below h9 z0, pw_cell_below h9 z1, pw_cell_below h9 z2, pw_cell_below h9 z3, pw_cell_below h9 z4, pw_cell_below h9 z5, pw_cell_below h9 z6⟩)) _ ?_
            refine Lib.hid (fun v106 v107 v108 v109 v110 v111 v112 v113 v114 v115 v116 v117 v118 v119 v120 v121 v122 v123 v124 W15 hP15 => ?_)
            have HP15 := Lib.hid hP15
            clear hP15
            go_wp2_with fail
            go_roundw
            case rel => exact ⟨2, by omega, rfl, Lib.hid (below_step HB14.out HP15.out)⟩
            case measure => simp [intOf]
      · have e1 : (e0 != 0) = true := by simpa using he
        go_wp2_with fail
        go_roundw
        case rel => exact ⟨2, by omega, rfl, HB5⟩
        case measure => simp [intOf]
    · go_wp2_with fail
      go_ret
      exact ⟨rfl, below_step HB4.out HB.out⟩
end Go.Proofs.YtcfgmkmllcfjjaaDoor

set_option linter.unusedVariables false
set_option linter.unusedSimpArgs false
namespace Go.Proofs.YtcfgmkmllcfjjaaDoor
open Go.RowKit Go.Proofs.YtcfgmkmllcfjjaaDoorW.PrintWords Go.Proofs.YtcfgmkmllcfjjaaDoorW.PrintMore PImageForm
set_option maxRecDepth 100000 in
set_option maxHeartbeats 8000000 in
theorem dam_nz {w : World} {m : Img} {A4 A5 A6 : Option Addr} {c4 c5 c6 : Nat} {at0 t0 : Int} (hG : GW w) (hm : ImgI m) (hV : ImgV w m A4 c4 A5 c5 A6 c6) (hl : m.seens.length ≤ 100000000) (hat : I64 at0) (ht0 : 0 ≤ t0) (ht1 : t0 < 256) (hs : at0 < 0) (hz : t0 = 0) :
    Calls Tryd.prog 4 #[imgV m (.slice A4 m.types.length c4) (.slice A5 m.saved.length c5) (.slice A6 m.seens.length c6), .int .i64 at0, .int .u8 t0] w fun e w' => e = .returned (.bool true) ∧ Below w.heap.size w w' := by
  have HBG := Lib.hid (show ∀ W : World, Below w.heap.size w W → Calls Tryd.prog 5 #[] W (fun e w' => e = .returned (.bool true) ∧ Below W.heap.size W w') from fun W hW => begun_any W (hG.below hW))
  have HSM := Lib.hid (fun W : World => small_any W)
  have HSV := Lib.hid (fun (W : World) (hW : Below w.heap.size w W) => saved_any (hG.below hW) hm (hV.below hW) hl (rfl : saveB m = saveB m) (rfl : saveE m = saveE m))
  have HSS := Lib.hid (fun (W : World) B4 b4 B5 b5 B6 b6 (hW : Below w.heap.size w W) (h : ImgV W smallM B4 b4 B5 b5 B6 b6) => saved_any (hG.below hW) small_I h (by show 1 ≤ _; omega) small_saveB small_saveE)
  have HLZ := Lib.hid (fun (W : World) (A : Option Addr) (c : Nat) (L : List Int) (hW : Below w.heap.size w W) (hA : BytesAt W A c L) (hB : Bytes L) (hL : L.length ≤ 67108864) (h : loadF L = (zImg, 32)) => zloaded_any (hG.below hW) hA hB hL h)
  have HLA := Lib.hid (fun (W : World) (A : Option Addr) (c : Nat) (L : List Int) (hW : Below w.heap.size w W) (hA : BytesAt W A c L) (hB : Bytes L) (hL : L.length ≤ 67108864) => loaded_any (n := (loadF L).1) (f := (loadF L).2) (hG.below hW) hA hB hL rfl)
  have HZ := Lib.hid (fun (W : World) B4 b4 B5 b5 B6 b6 (h : ImgV W zImg B4 b4 B5 b5 B6 b6) => zimages_any h)
  have HSum := Lib.hid (fun h : saveE m = 0 => save_summed hm h)
  have HSumS := Lib.hid (show Summed smallB from by rw [← small_saveB]; exact save_summed small_I small_saveE)
  generalize saveB m = S at *
  generalize saveE m = e0 at *
  clear hG hm hV hl
  have HZ0 := Lib.hid hz
  clear hz
  unfold imgV at *
  generalize smallM = ms at *
  generalize smallB = Ss at *
  go_enter Tryd.func4, Tryd.ntmps4
  go_wp2_with fail
  have hb0 := below_new w (.cells #[.int .i64 m.runs, .int .i64 m.made, .int .i64 m.seq, .int .i64 m.now, .slice A4 m.types.length c4, .slice A5 m.saved.length c5, .slice A6 m.seens.length c6] 28)
  refine (HBG.out _ hb0).mono ?_
  rintro e1 w1 ⟨rfl, hB1⟩
  have hx : IBox _ w.heap.size m (.slice A4 m.types.length c4) (.slice A5 m.saved.length c5) (.slice A6 m.seens.length c6) := blk_new w (.cells #[.int .i64 m.runs, .int .i64 m.made, .int .i64 m.seq, .int .i64 m.now, .slice A4 m.types.length c4, .slice A5 m.saved.length c5, .slice A6 m.seens.length c6] 28)
  have hx1 := blk_below hx hB1
  have HB1 := Lib.hid (below_step hb0 hB1)
  have HX1 := Lib.hid hx1
  clear hx hx1 hb0 hB1
  go_wp2_with fail
  refine (HSM.out _).mono ?_
  rintro e2 w2 ⟨B4, b4, B5, b5, B6, b6, B7, b7, rfl, hV2, _, hB2⟩
  have hb3 := below_new w2 (.cells #[.int .i64 ms.runs, .int .i64 ms.made, .int .i64 ms.seq, .int .i64 ms.now, .slice B4 ms.types.length b4, .slice B5 ms.saved.length b5, .slice B6 ms.seens.length b6] 28)
  have hx3 : IBox _ w2.heap.size ms (.slice B4 ms.types.length b4) (.slice B5 ms.saved.length b5) (.slice B6 ms.seens.length b6) := blk_new w2 (.cells #[.int .i64 ms.runs, .int .i64 ms.made, .int .i64 ms.seq, .int .i64 ms.now, .slice B4 ms.types.length b4, .slice B5 ms.saved.length b5, .slice B6 ms.seens.length b6] 28)
  have hb := below_step hB2 hb3
  have HB4 := Lib.hid (below_step HB1.out hb)
  have HX4 := Lib.hid (blk_below HX1.out hb)
  have HY4 := Lib.hid hx3
  have HV4 := Lib.hid (hV2.below hb3)
  clear hV2 hB2 hb3 hx3 hb
  go_wp2_with fail
  generalize w2.alloc (.cells #[.int .i64 ms.runs, .int .i64 ms.made, .int .i64 ms.seq, .int .i64 ms.now, .slice B4 ms.types.length b4, .slice B5 ms.saved.length b5, .slice B6 ms.seens.length b6] 28) = w4 at *
  generalize w2.heap.size = gs at *
  go_loopw [9] (fun t9 wr => ∃ k : Nat, k ≤ 2 ∧ t9 = .int .i64 k ∧ Hid (Below w4.heap.size w4 wr)) (fun t9 _ => 2 - (intOf t9).toNat)
  case atStart => exact ⟨0, by omega, rfl, Lib.hid (Below.refl _ _)⟩
  case round =>
    obtain ⟨k, hk, rfl, HB⟩ := hrel
    have hy := blk_below HY4.out HB.out
    have y0 := (IBox.cells hy 0).trans rfl
    have y1 := (IBox.cells hy 1).trans rfl
    have y2 := (IBox.cells hy 2).trans rfl
    have y3 := (IBox.cells hy 3).trans rfl
    have y4 := (IBox.cells hy 4).trans rfl
    have y5 := (IBox.cells hy 5).trans rfl
    have y6 := (IBox.cells hy 6).trans rfl
    clear hy
    obtain rfl | rfl | rfl : k = 0 ∨ k = 1 ∨ k = 2 := by omega
    · go_wp2_with fail
      have hb5 := below_step HB.out (below_new wr (.cells #[.int .i64 ms.runs, .int .i64 ms.made, .int .i64 ms.seq, .int .i64 ms.now, .slice B4 ms.types.length b4, .slice B5 ms.saved.length b5, .slice B6 ms.seens.length b6] 28))
      refine (HSS.out _ _ _ _ _ _ _ (below_step HB4.out hb5) (HV4.out.below hb5)).mono ?_
      rintro e5 w5 ⟨A, c, rfl, hA5, hB5⟩
      have HB5 := Lib.hid (below_step hb5 hB5)
      have HA5 := Lib.hid hA5
      clear hA5 hB5 hb5 y0 y1 y2 y3 y4 y5 y6
      have hlo := HSumS.out.lo
      have hhi := HSumS.out.hi
      have hby := HSumS.out.bytes
      have d8 : decide ((Ss.length : Int) < 8) = false := decide_eq_false (by omega)
      have d8n : decide (Ss.length < 8) = false := decide_eq_false (by omega)
      have da : decide (at0 < 0) = true := decide_eq_true (by omega)
      obtain ⟨K, hKe⟩ : ∃ K : Int, K = -(at0 + 1) := ⟨_, rfl⟩
      have hwk : IntKind.i64.wrap (at0 + 1) = at0 + 1 := by rw [IntKind.wrap_i64]; unfold I64 at hat; omega
      have hwn : IntKind.i64.wrap (-(at0 + 1)) = K := by rw [IntKind.wrap_i64]; unfold I64 at hat; omega
      have hK0 : 0 ≤ K := by omega
      clear hKe
      have hln : ¬ (Ss.length : Int) = 0 := by omega
      obtain ⟨ix, hix⟩ : ∃ ix : Nat, Int.tmod K (Ss.length : Int) = (ix : Int) := Int.eq_ofNat_of_zero_le (Int.tmod_nonneg _ hK0)
      have hixl : ix < Ss.length := by have h := Int.tmod_lt_of_pos K (show (0 : Int) < (Ss.length : Int) by omega); omega
      have hRI : ReadsInt w5 .u8 A Ss.length Ss := readsInt_of.2 (Kd.reads_of_C (enc := Value.int .u8) (d := (0 : Int)) (h1 := fun _ => rfl) HA5.out.1)
      have HRI := Lib.hid hRI
      clear hRI
      go_wp2_with (at_builtin; refine print_append_row (w0 := w5) (W := w5) w5.heap.size rfl _ _ 29 5 .u8 1 rfl Tryd.underlying29 info5 (by decide) (.slice none 0 0) [] Ss A Ss.length c rfl rfl (World.ownsRow_nil w5 w5.heap.size 5 1) HRI.out (Below.refl _ _) (Nat.le_refl _) (by simp only [List.length_nil]; omega) ?_; intro v6 w6 hO6 hB6 hg6 _; rw [List.nil_append] at hO6; obtain ⟨g, cap, rfl, hg, _⟩ := hO6.form (by omega); have hat6 := own_at hO6 (ix : Int) (by omega) (by omega); obtain ⟨hc6, hf6⟩ := hat6; rw [Int.toNat_natCast] at hc6 hf6; have HO6 := Lib.hid hO6; have HB6 := Lib.hid hB6; clear hO6 hB6 hg6)
      have hrd : rd Ss (ix : Int) = Ss[ix] := by simp [rd, List.getD_eq_getElem?_getD, List.getElem?_eq_getElem hixl]
      have hbx := hby Ss[ix] (List.getElem_mem hixl)
      have hy7 := xor_u8 hbx.1 hbx.2 ht0 ht1
      rw [hrd]
      generalize bits .xor .u8 Ss[ix] t0 = y at *
      have hst := (own_store HO6.out (ix : Int) y).1
      rw [Int.toNat_natCast] at hst
      have hb7 : Below w5.heap.size w5 (w6.setCell ⟨g, ix, none⟩ (.int .u8 y)) := HB6.out.setCell hg _
      have hBB7 := below_step HB4.out (below_step HB5.out hb7)
      have hA7 : BytesAt (w6.setCell ⟨g, ix, none⟩ (.int .u8 y)) (some ⟨g, 0, none⟩) cap (Ss.set ix y) := by have h : BRow (w6.setCell ⟨g, ix, none⟩ (.int .u8 y)) w5.heap.size (.slice (some ⟨g, 0, none⟩) (Ss.set ix y).length cap) (Ss.set ix y) := (by unfold BRow; rw [List.length_set]; exact hst); exact ⟨h.reads.2, h.reads.1⟩
      have hby7 : Bytes (Ss.set ix y) := fun b hb => by (rcases List.mem_or_eq_of_mem_set hb with hb | rfl; exact hby b hb; exact hy7)
      have hLc := HLA.out _ _ _ _ hBB7 hA7 hby7 (by rw [List.length_set]; omega)
      rw [List.length_set] at hLc
      generalize (loadF (Ss.set ix y)).1 = n8 at *
      generalize (loadF (Ss.set ix y)).2 = f8 at *
      refine hLc.mono ?_
      rintro e8 w8 ⟨D4, d4, D5, d5, D6, d6, rfl, hV8, hB8⟩
      have hx9 : IBox _ w8.heap.size n8 (.slice D4 n8.types.length d4) (.slice D5 n8.saved.length d5) (.slice D6 n8.seens.length d6) := blk_new w8 (.cells #[.int .i64 n8.runs, .int .i64 n8.made, .int .i64 n8.seq, .int .i64 n8.now, .slice D4 n8.types.length d4, .slice D5 n8.saved.length d5, .slice D6 n8.seens.length d6] 28)
      have HSZ := Lib.hid (below_step hb7 hB8).size
      have hb9 := below_new w8 (.cells #[.int .i64 n8.runs, .int .i64 n8.made, .int .i64 n8.seq, .int .i64 n8.now, .slice D4 n8.types.length d4, .slice D5 n8.saved.length d5, .slice D6 n8.seens.length d6] 28)
      have hb59 := below_step hb7 (below_step hB8 hb9)
      have hz := HZ0.out
      subst hz
      have HX10 := Lib.hid hx9
      have HB10 := Lib.hid hb59
      clear hx9 hb59 hb9 hV8 hB8 hLc hBB7 hA7 hby7 hb7 hst hc6 hf6
      have HA10 := Lib.hid (HA5.out.below HB10.out)
      have HRJ := Lib.hid (show ReadsInt (w8.alloc (.cells #[.int .i64 n8.runs, .int .i64 n8.made, .int .i64 n8.seq, .int .i64 n8.now, .slice D4 n8.types.length d4, .slice D5 n8.saved.length d5, .slice D6 n8.seens.length d6] 28)) .u8 A Ss.length Ss from readsInt_of.2 (Kd.reads_of_C (enc := Value.int .u8) (d := (0 : Int)) (h1 := fun _ => rfl) HA10.out.1))
      obtain ⟨jx, hjx⟩ : ∃ jx : Nat, Int.tmod K ((Ss.length : Int) - 5) = (jx : Int) := Int.eq_ofNat_of_zero_le (Int.tmod_nonneg _ hK0)
      have hjxl : jx + 5 < Ss.length := by have h := Int.tmod_lt_of_pos K (show (0 : Int) < (Ss.length : Int) - 5 by omega); omega
      have hln5 : ¬ (Ss.length : Int) - 5 = 0 := by omega
      obtain ⟨kx, hkx⟩ : ∃ kx : Nat, kx = jx + 1 := ⟨_, rfl⟩
      have hkl : kx < Ss.length := by omega
      have hjl : jx < Ss.length := by omega
      have hjw : IntKind.i64.wrap ((jx : Int) + 1) = (kx : Int) := by rw [show ((jx : Int) + 1) = (kx : Int) by omega]; rw [IntKind.wrap_i64]; omega
      have hkj : ¬ kx = jx := by omega
      have hjk : ¬ jx = kx := by omega
      have HKX := Lib.hid hkx
      have HJXL := Lib.hid hjxl
      clear hkx hjxl
      go_wp2_with (at_builtin; refine print_append_row (w0 := (w8.alloc (.cells #[.int .i64 n8.runs, .int .i64 n8.made, .int .i64 n8.seq, .int .i64 n8.now, .slice D4 n8.types.length d4, .slice D5 n8.saved.length d5, .slice D6 n8.seens.length d6] 28))) (W := (w8.alloc (.cells #[.int .i64 n8.runs, .int .i64 n8.made, .int .i64 n8.seq, .int .i64 n8.now, .slice D4 n8.types.length d4, .slice D5 n8.saved.length d5, .slice D6 n8.seens.length d6] 28))) ((w8.alloc (.cells #[.int .i64 n8.runs, .int .i64 n8.made, .int .i64 n8.seq, .int .i64 n8.now, .slice D4 n8.types.length d4, .slice D5 n8.saved.length d5, .slice D6 n8.seens.length d6] 28))).heap.size rfl _ _ 29 5 .u8 1 rfl Tryd.underlying29 info5 (by decide) (.slice none 0 0) [] Ss A Ss.length c rfl rfl (World.ownsRow_nil (w8.alloc (.cells #[.int .i64 n8.runs, .int .i64 n8.made, .int .i64 n8.seq, .int .i64 n8.now, .slice D4 n8.types.length d4, .slice D5 n8.saved.length d5, .slice D6 n8.seens.length d6] 28)) ((w8.alloc (.cells #[.int .i64 n8.runs, .int .i64 n8.made, .int .i64 n8.seq, .int .i64 n8.now, .slice D4 n8.types.length d4, .slice D5 n8.saved.length d5, .slice D6 n8.seens.length d6] 28))).heap.size 5 1) HRJ.out (Below.refl _ _) (Nat.le_refl _) (by simp only [List.length_nil]; omega) ?_; intro v11 w11 hO11 hB11 hg11 _; rw [List.nil_append] at hO11; obtain ⟨g2, cap2, rfl, hg2, _⟩ := hO11.form (by omega); have hat0 := own_at hO11 (jx : Int) (by omega) (by omega); have hat1 := own_at hO11 (kx : Int) (by omega) (by omega); obtain ⟨hc0, hf0⟩ := hat0; obtain ⟨hc1, hf1⟩ := hat1; rw [Int.toNat_natCast] at hc0 hf0 hc1 hf1; have HO11 := Lib.hid hO11; have HB11 := Lib.hid hB11; clear hO11 hB11 hg11)
      go_region_law (fail)
      all_goals
        have hS0 : rd Ss (jx : Int) = Ss[jx] := by simp [rd, List.getD_eq_getElem?_getD, List.getElem?_eq_getElem hjl]
        have hS1 : rd Ss (kx : Int) = Ss[kx] := by simp [rd, List.getD_eq_getElem?_getD, List.getElem?_eq_getElem hkl]
        rw [hS0, hS1]
        have hsw : Ss[jx] ≠ Ss[kx] → loadF ((Ss.set jx Ss[kx]).set kx Ss[jx]) = (zImg, 32) := by (intro hne; have e := HKX.out; have l := HJXL.out; subst e; exact damage_swap HSumS.out (by omega) (by omega) hne)
        have hbj := hby Ss[jx] (List.getElem_mem hjl)
        have hbk := hby Ss[kx] (List.getElem_mem hkl)
        generalize Ss[jx] = va at *
        generalize Ss[kx] = vb at *
        have st := (own_store (own_store HO11.out (jx : Int) vb).1 (kx : Int) va).1
        rw [Int.toNat_natCast, Int.toNat_natCast] at st
        have hb12 : Below ((w8.alloc (.cells #[.int .i64 n8.runs, .int .i64 n8.made, .int .i64 n8.seq, .int .i64 n8.now, .slice D4 n8.types.length d4, .slice D5 n8.saved.length d5, .slice D6 n8.seens.length d6] 28))).heap.size (w8.alloc (.cells #[.int .i64 n8.runs, .int .i64 n8.made, .int .i64 n8.seq, .int .i64 n8.now, .slice D4 n8.types.length d4, .slice D5 n8.saved.length d5, .slice D6 n8.seens.length d6] 28)) ((w11.setCell ⟨g2, jx, none⟩ (.int .u8 vb)).setCell ⟨g2, kx, none⟩ (.int .u8 va)).drew := below_drew ((HB11.out.setCell hg2 _).setCell hg2 _)
        have st2 := own_move (w1 := ((w11.setCell ⟨g2, jx, none⟩ (.int .u8 vb)).setCell ⟨g2, kx, none⟩ (.int .u8 va)).drew) st (fun k hk => rfl)
        generalize ((w11.setCell ⟨g2, jx, none⟩ (.int .u8 vb)).setCell ⟨g2, kx, none⟩ (.int .u8 va)).drew = w12 at *
        have hbyD : Bytes ((Ss.set jx vb).set kx va) := fun b hb => by (rcases List.mem_or_eq_of_mem_set hb with hb | rfl; (rcases List.mem_or_eq_of_mem_set hb with hb | rfl; exact hby b hb; exact hbk); exact hbj)
        have hlD : ((Ss.set jx vb).set kx va).length = Ss.length := by rw [List.length_set, List.length_set]
        have rD0 : rd ((Ss.set jx vb).set kx va) (jx : Int) = vb := by simp [rd, List.getD_eq_getElem?_getD, List.getElem?_set, hkj, hjl]
        have rD1 : rd ((Ss.set jx vb).set kx va) (kx : Int) = va := by simp [rd, List.getD_eq_getElem?_getD, List.getElem?_set, hkl]
        generalize (Ss.set jx vb).set kx va = D at *
        have hAD : BytesAt w12 (some ⟨g2, 0, none⟩) cap2 D := by have h : BRow w12 ((w8.alloc (.cells #[.int .i64 n8.runs, .int .i64 n8.made, .int .i64 n8.seq, .int .i64 n8.now, .slice D4 n8.types.length d4, .slice D5 n8.saved.length d5, .slice D6 n8.seens.length d6] 28))).heap.size (.slice (some ⟨g2, 0, none⟩) D.length cap2) D := (by unfold BRow; rw [hlD]; exact st2); exact ⟨h.reads.2, h.reads.1⟩
        have hBB12 := below_step HB4.out (below_step HB5.out (below_step HB10.out hb12))
        have HST := Lib.hid st2
        have HB12 := Lib.hid hb12
        by_cases hq : va = vb
        · have hLc := HLA.out _ _ _ _ hBB12 hAD hbyD (by rw [hlD]; omega)
          rw [hlD] at hLc
          generalize (loadF D).1 = n13 at *
          generalize (loadF D).2 = f13 at *
          have HLc := Lib.hid hLc
          clear hLc st st2 hb12 hBB12 hAD hc0 hf0 hc1 hf1
          go_wp2_with fail
          refine HLc.out.mono ?_
          rintro e13 w13 ⟨E4, e4, E5, e5, E6, e6, rfl, hV13, hB13⟩
          have hz := blk_below HX10.out (below_step HB12.out hB13)
          have f0 := blk_frozen hz 0
          have f1 := blk_frozen hz 1
          have f2 := blk_frozen hz 2
          have f3 := blk_frozen hz 3
          have f4 := blk_frozen hz 4
          have f5 := blk_frozen hz 5
          have f6 := blk_frozen hz 6
          have x0 := (IBox.cells hz 0).trans rfl
          have x1 := (IBox.cells hz 1).trans rfl
          have x2 := (IBox.cells hz 2).trans rfl
          have x3 := (IBox.cells hz 3).trans rfl
          have x4 := (IBox.cells hz 4).trans rfl
          have x5 := (IBox.cells hz 5).trans rfl
          have x6 := (IBox.cells hz 6).trans rfl
          go_wp2_with fail
          have hlt8 : w8.heap.size < ((w8.alloc (.cells #[.int .i64 n8.runs, .int .i64 n8.made, .int .i64 n8.seq, .int .i64 n8.now, .slice D4 n8.types.length d4, .slice D5 n8.saved.length d5, .slice D6 n8.seens.length d6] 28))).heap.size := (Array.getElem?_eq_some_iff.1 HX10.out).1
          have hg8 : g2 ≠ w8.heap.size := by omega
          have hst14 := own_move (w1 := (((((((w13.setCell ⟨w8.heap.size, 0, none⟩ (.int .i64 n13.runs)).setCell ⟨w8.heap.size, 1, none⟩ (.int .i64 n13.made)).setCell ⟨w8.heap.size, 2, none⟩ (.int .i64 n13.seq)).setCell ⟨w8.heap.size, 3, none⟩ (.int .i64 n13.now)).setCell ⟨w8.heap.size, 4, none⟩ (.slice E4 n13.types.length e4)).setCell ⟨w8.heap.size, 5, none⟩ (.slice E5 n13.saved.length e5)).setCell ⟨w8.heap.size, 6, none⟩ (.slice E6 n13.seens.length e6))) HST.out (fun k hk => by (have hk2 : g2 = k := (by simpa [Value.ownBlock] using hk); subst hk2; exact (heap7 hg8 _ _ _ _ _ _ _).trans (hB13.block _ (own_lt HST.out _ hk))))
          have hb514 := below7 (below_step HB10.out (below_step HB12.out hB13)) HSZ.out (.int .i64 n13.runs) (.int .i64 n13.made) (.int .i64 n13.seq) (.int .i64 n13.now) (.slice E4 n13.types.length e4) (.slice E5 n13.saved.length e5) (.slice E6 n13.seens.length e6)
          clear f0 f1 f2 f3 f4 f5 f6 x0 x1 x2 x3 x4 x5 x6 hz
          generalize (((((((w13.setCell ⟨w8.heap.size, 0, none⟩ (.int .i64 n13.runs)).setCell ⟨w8.heap.size, 1, none⟩ (.int .i64 n13.made)).setCell ⟨w8.heap.size, 2, none⟩ (.int .i64 n13.seq)).setCell ⟨w8.heap.size, 3, none⟩ (.int .i64 n13.now)).setCell ⟨w8.heap.size, 4, none⟩ (.slice E4 n13.types.length e4)).setCell ⟨w8.heap.size, 5, none⟩ (.slice E5 n13.saved.length e5)).setCell ⟨w8.heap.size, 6, none⟩ (.slice E6 n13.seens.length e6)) = w14 at *
          obtain ⟨cj, fj⟩ := own_at hst14 (jx : Int) (by omega) (by omega)
          obtain ⟨ck, fk⟩ := own_at hst14 (kx : Int) (by omega) (by omega)
          rw [Int.toNat_natCast, rD0] at cj
          rw [Int.toNat_natCast, rD1] at ck
          have q1 : (vb != va) = false := by simp [hq]
          have HB14 := Lib.hid (below_step HB5.out hb514)
          clear hst14 hb514 fj fk hV13 hB13 rD0 rD1 hlt8 hg8
          go_upto_region 26 with fail
          refine reg26_f _ _ _ _ _ _ _ _ _ _ _ _ _ _ _ _ _ _ _ _ _ _ _ _ _ _ _ _ _ _ _ _ _ _ _ _ _ _ _ _ _ _ _ _ _ _ _ _ _ _ _ _ _ _ _ _ _ _ _ _ _ _ _ _ _ _ _ _ _ _ _ _ _ _ _ _ _ _ _ _ _ _ _ _ _ _ _ _ _ _ _ _ _ _ _ _ _ _ _ _ _ _ _ _ _ _ _ _ _ _ _ _ _ _ _ _ _ _ _ _ _ _ (w8.heap.size) g2 Ss.length cap2 jx kx vb va f13 _ (fun W9 => Below w14.heap.size w14 W9) (Int.natCast_nonneg _) (by omega) (Int.natCast_nonneg _) (by omega) hjw q1  (below_drew (Below.refl _ _)) (Lib.hid (fun w9 h9 => ⟨pw_cell_below h9 cj, pw_cell_below h9 ck⟩)) _ ?_
          refine Lib.hid (fun v106 v107 v108 v109 v110 v111 v112 v113 v114 v115 v116 v117 v118 v119 v120 v121 v122 v123 v124 W15 hP15 => ?_)
          have HP15 := Lib.hid hP15
          clear hP15
          go_wp2_with fail
          go_roundw
          case rel => exact ⟨1, by omega, rfl, Lib.hid (below_step HB14.out HP15.out)⟩
          case measure => simp [intOf]
        · have hLc := HLZ.out _ _ _ _ hBB12 hAD hbyD (by rw [hlD]; omega) (hsw hq)
          rw [hlD] at hLc
          have HLc := Lib.hid hLc
          clear hLc st st2 hb12 hBB12 hAD hc0 hf0 hc1 hf1
          go_wp2_with fail
          refine HLc.out.mono ?_
          rintro e13 w13 ⟨E4, e4, E5, e5, E6, e6, rfl, hV13, hB13⟩
          have hz := blk_below HX10.out (below_step HB12.out hB13)
          have f0 := blk_frozen hz 0
          have f1 := blk_frozen hz 1
          have f2 := blk_frozen hz 2
          have f3 := blk_frozen hz 3
          have f4 := blk_frozen hz 4
          have f5 := blk_frozen hz 5
          have f6 := blk_frozen hz 6
          have x0 := (IBox.cells hz 0).trans rfl
          have x1 := (IBox.cells hz 1).trans rfl
          have x2 := (IBox.cells hz 2).trans rfl
          have x3 := (IBox.cells hz 3).trans rfl
          have x4 := (IBox.cells hz 4).trans rfl
          have x5 := (IBox.cells hz 5).trans rfl
          have x6 := (IBox.cells hz 6).trans rfl
          go_wp2_with fail
          have hp : IBox (((((((w13.setCell ⟨w8.heap.size, 0, none⟩ (.int .i64 0)).setCell ⟨w8.heap.size, 1, none⟩ (.int .i64 0)).setCell ⟨w8.heap.size, 2, none⟩ (.int .i64 0)).setCell ⟨w8.heap.size, 3, none⟩ (.int .i64 0)).setCell ⟨w8.heap.size, 4, none⟩ (.slice E4 0 e4)).setCell ⟨w8.heap.size, 5, none⟩ (.slice E5 0 e5)).setCell ⟨w8.heap.size, 6, none⟩ (.slice E6 0 e6)) w8.heap.size zImg (.slice E4 0 e4) (.slice E5 0 e5) (.slice E6 0 e6) := IBox.putz (m := n8) hz _ _ _
          have hlt8 : w8.heap.size < ((w8.alloc (.cells #[.int .i64 n8.runs, .int .i64 n8.made, .int .i64 n8.seq, .int .i64 n8.now, .slice D4 n8.types.length d4, .slice D5 n8.saved.length d5, .slice D6 n8.seens.length d6] 28))).heap.size := (Array.getElem?_eq_some_iff.1 HX10.out).1
          have hg8 : g2 ≠ w8.heap.size := by omega
          have hst14 := own_move (w1 := (((((((w13.setCell ⟨w8.heap.size, 0, none⟩ (.int .i64 0)).setCell ⟨w8.heap.size, 1, none⟩ (.int .i64 0)).setCell ⟨w8.heap.size, 2, none⟩ (.int .i64 0)).setCell ⟨w8.heap.size, 3, none⟩ (.int .i64 0)).setCell ⟨w8.heap.size, 4, none⟩ (.slice E4 0 e4)).setCell ⟨w8.heap.size, 5, none⟩ (.slice E5 0 e5)).setCell ⟨w8.heap.size, 6, none⟩ (.slice E6 0 e6))) HST.out (fun k hk => by (obtain rfl : g2 = k := by simpa [Value.ownBlock] using hk); exact (heap7 hg8 _ _ _ _ _ _ _).trans (hB13.block _ (own_lt HST.out _ hk)))
          have hV14 : ImgV (((((((w13.setCell ⟨w8.heap.size, 0, none⟩ (.int .i64 0)).setCell ⟨w8.heap.size, 1, none⟩ (.int .i64 0)).setCell ⟨w8.heap.size, 2, none⟩ (.int .i64 0)).setCell ⟨w8.heap.size, 3, none⟩ (.int .i64 0)).setCell ⟨w8.heap.size, 4, none⟩ (.slice E4 0 e4)).setCell ⟨w8.heap.size, 5, none⟩ (.slice E5 0 e5)).setCell ⟨w8.heap.size, 6, none⟩ (.slice E6 0 e6)) zImg E4 e4 E5 e5 E6 e6 := ⟨⟨⟨rfl, by simp [zImg], fun h => absurd h (Nat.lt_irrefl 0)⟩, hV13.1.2⟩, ⟨⟨rfl, by simp [zImg], fun h => absurd h (Nat.lt_irrefl 0)⟩, hV13.2.1.2⟩, ⟨⟨rfl, by simp [zImg], fun h => absurd h (Nat.lt_irrefl 0)⟩, hV13.2.2.2⟩⟩
          have hb514 := below7 (below_step HB10.out (below_step HB12.out hB13)) HSZ.out (.int .i64 0) (.int .i64 0) (.int .i64 0) (.int .i64 0) (.slice E4 0 e4) (.slice E5 0 e5) (.slice E6 0 e6)
          clear f0 f1 f2 f3 f4 f5 f6 x0 x1 x2 x3 x4 x5 x6 hz
          generalize (((((((w13.setCell ⟨w8.heap.size, 0, none⟩ (.int .i64 0)).setCell ⟨w8.heap.size, 1, none⟩ (.int .i64 0)).setCell ⟨w8.heap.size, 2, none⟩ (.int .i64 0)).setCell ⟨w8.heap.size, 3, none⟩ (.int .i64 0)).setCell ⟨w8.heap.size, 4, none⟩ (.slice E4 0 e4)).setCell ⟨w8.heap.size, 5, none⟩ (.slice E5 0 e5)).setCell ⟨w8.heap.size, 6, none⟩ (.slice E6 0 e6)) = w14 at *
          have z0 : w14.cell? ⟨w8.heap.size, 0, none⟩ = some (.int .i64 0) := (IBox.cells hp 0).trans rfl
          have z1 : w14.cell? ⟨w8.heap.size, 1, none⟩ = some (.int .i64 0) := (IBox.cells hp 1).trans rfl
          have z2 : w14.cell? ⟨w8.heap.size, 2, none⟩ = some (.int .i64 0) := (IBox.cells hp 2).trans rfl
          have z3 : w14.cell? ⟨w8.heap.size, 3, none⟩ = some (.int .i64 0) := (IBox.cells hp 3).trans rfl
          have z4 : w14.cell? ⟨w8.heap.size, 4, none⟩ = some (.slice E4 0 e4) := (IBox.cells hp 4).trans rfl
          have z5 : w14.cell? ⟨w8.heap.size, 5, none⟩ = some (.slice E5 0 e5) := (IBox.cells hp 5).trans rfl
          have z6 : w14.cell? ⟨w8.heap.size, 6, none⟩ = some (.slice E6 0 e6) := (IBox.cells hp 6).trans rfl
          obtain ⟨cj, fj⟩ := own_at hst14 (jx : Int) (by omega) (by omega)
          obtain ⟨ck, fk⟩ := own_at hst14 (kx : Int) (by omega) (by omega)
          rw [Int.toNat_natCast, rD0] at cj
          rw [Int.toNat_natCast, rD1] at ck
          have q1 : (vb != va) = true := by simpa using Ne.symm hq
          have HZI := Lib.hid (fun (W : World) (hW : Below w14.heap.size w14 W) => HZ.out W _ _ _ _ _ _ (hV14.below hW))
          have HB14 := Lib.hid (below_step HB5.out hb514)
          clear hst14 hV14 hb514 hp fj fk hV13 hB13 rD0 rD1 hlt8 hg8
          go_upto_region 26 with fail
          refine reg26_t _ _ _ _ _ _ _ _ _ _ _ _ _ _ _ _ _ _ _ _ _ _ _ _ _ _ _ _ _ _ _ _ _ _ _ _ _ _ _ _ _ _ _ _ _ _ _ _ _ _ _ _ _ _ _ _ _ _ _ _ _ _ _ _ _ _ _ _ _ _ _ _ _ _ _ _ _ _ _ _ _ _ _ _ _ _ _ _ _ _ _ _ _ _ _ _ _ _ _ _ _ _ _ _ _ _ _ _ _ _ _ _ _ _ _ _ _ _ _ _ _ _ (w8.heap.size) g2 Ss.length cap2 jx kx vb va (.int .i64 0) (.int .i64 0) (.int .i64 0) (.int .i64 0) (.slice E4 0 e4) (.slice E5 0 e5) (.slice E6 0 e6) _ (fun W9 => Below w14.heap.size w14 W9) (fun W9 => Below w14.heap.size w14 W9) (Int.natCast_nonneg _) (by omega) (Int.natCast_nonneg _) (by omega) hjw q1 (Lib.hid (fun W9 h9 => (HZI.out W9 h9).mono (fun e9 x9 h => ⟨h.1, below_step h9 h.2⟩))) (below_drew (Below.refl _ _)) (Lib.hid (fun w9 h9 => ⟨pw_cell_below h9 cj, pw_cell_below h9 ck, pw_cell_below h9 z0, pw_cell_below h9 z1, pw_cell_below h9 z2, pw_cell_below h9 z3, pw_cell_below h9 z4, pw_cell_below h9 z5, pw_cell_below h9 z6⟩)) (Lib.hid (fun w9 h9 => ⟨pw_cell_below h9 cj, pw_cell_below h9 ck, pw_cell_below h9 z0, pw_cell_below h9 z1, pw_cell_below h9 z2, pw_cell_below h9 z3, pw_cell_below h9 z4, pw_cell_below h9 z5, pw_cell_below h9 z6⟩)) _ ?_
          refine Lib.hid (fun v106 v107 v108 v109 v110 v111 v112 v113 v114 v115 v116 v117 v118 v119 v120 v121 v122 v123 v124 W15 hP15 => ?_)
          have HP15 := Lib.hid hP15
          clear hP15
          go_wp2_with fail
          go_roundw
          case rel => exact ⟨1, by omega, rfl, Lib.hid (below_step HB14.out HP15.out)⟩
          case measure => simp [intOf]
    · have hx := blk_below HX4.out (below_step HB.out (below_new wr (.cells #[.int .i64 ms.runs, .int .i64 ms.made, .int .i64 ms.seq, .int .i64 ms.now, .slice B4 ms.types.length b4, .slice B5 ms.saved.length b5, .slice B6 ms.seens.length b6] 28)))
      have x0 := (IBox.cells hx 0).trans rfl
      have x1 := (IBox.cells hx 1).trans rfl
      have x2 := (IBox.cells hx 2).trans rfl
      have x3 := (IBox.cells hx 3).trans rfl
      have x4 := (IBox.cells hx 4).trans rfl
      have x5 := (IBox.cells hx 5).trans rfl
      have x6 := (IBox.cells hx 6).trans rfl
      clear hx
      go_wp2_with fail
      have hb5 := below_step HB.out (below_new wr (.cells #[.int .i64 m.runs, .int .i64 m.made, .int .i64 m.seq, .int .i64 m.now, .slice A4 m.types.length c4, .slice A5 m.saved.length c5, .slice A6 m.seens.length c6] 28))
      refine (HSV.out _ (below_step HB4.out hb5)).mono ?_
      rintro e5 w5 ⟨A, c, rfl, hA5, hB5⟩
      have HB5 := Lib.hid (below_step hb5 hB5)
      have HA5 := Lib.hid hA5
      clear hA5 hB5 hb5 y0 y1 y2 y3 y4 y5 y6 x0 x1 x2 x3 x4 x5 x6
      by_cases he : e0 = 0
      · have HS := Lib.hid (HSum.out he)
        subst he
        have hlo := HS.out.lo
        have hhi := HS.out.hi
        have hby := HS.out.bytes
        have d8 : decide ((S.length : Int) < 8) = false := decide_eq_false (by omega)
        have d8n : decide (S.length < 8) = false := decide_eq_false (by omega)
        have da : decide (at0 < 0) = true := decide_eq_true (by omega)
        obtain ⟨K, hKe⟩ : ∃ K : Int, K = -(at0 + 1) := ⟨_, rfl⟩
        have hwk : IntKind.i64.wrap (at0 + 1) = at0 + 1 := by rw [IntKind.wrap_i64]; unfold I64 at hat; omega
        have hwn : IntKind.i64.wrap (-(at0 + 1)) = K := by rw [IntKind.wrap_i64]; unfold I64 at hat; omega
        have hK0 : 0 ≤ K := by omega
        clear hKe
        have hln : ¬ (S.length : Int) = 0 := by omega
        obtain ⟨ix, hix⟩ : ∃ ix : Nat, Int.tmod K (S.length : Int) = (ix : Int) := Int.eq_ofNat_of_zero_le (Int.tmod_nonneg _ hK0)
        have hixl : ix < S.length := by have h := Int.tmod_lt_of_pos K (show (0 : Int) < (S.length : Int) by omega); omega
        have hRI : ReadsInt w5 .u8 A S.length S := readsInt_of.2 (Kd.reads_of_C (enc := Value.int .u8) (d := (0 : Int)) (h1 := fun _ => rfl) HA5.out.1)
        have HRI := Lib.hid hRI
        clear hRI
        go_wp2_with (at_builtin; refine print_append_row (w0 := w5) (W := w5) w5.heap.size rfl _ _ 29 5 .u8 1 rfl Tryd.underlying29 info5 (by decide) (.slice none 0 0) [] S A S.length c rfl rfl (World.ownsRow_nil w5 w5.heap.size 5 1) HRI.out (Below.refl _ _) (Nat.le_refl _) (by simp only [List.length_nil]; omega) ?_; intro v6 w6 hO6 hB6 hg6 _; rw [List.nil_append] at hO6; obtain ⟨g, cap, rfl, hg, _⟩ := hO6.form (by omega); have hat6 := own_at hO6 (ix : Int) (by omega) (by omega); obtain ⟨hc6, hf6⟩ := hat6; rw [Int.toNat_natCast] at hc6 hf6; have HO6 := Lib.hid hO6; have HB6 := Lib.hid hB6; clear hO6 hB6 hg6)
        have hrd : rd S (ix : Int) = S[ix] := by simp [rd, List.getD_eq_getElem?_getD, List.getElem?_eq_getElem hixl]
        have hbx := hby S[ix] (List.getElem_mem hixl)
        have hy7 := xor_u8 hbx.1 hbx.2 ht0 ht1
        rw [hrd]
        generalize bits .xor .u8 S[ix] t0 = y at *
        have hst := (own_store HO6.out (ix : Int) y).1
        rw [Int.toNat_natCast] at hst
        have hb7 : Below w5.heap.size w5 (w6.setCell ⟨g, ix, none⟩ (.int .u8 y)) := HB6.out.setCell hg _
        have hBB7 := below_step HB4.out (below_step HB5.out hb7)
        have hA7 : BytesAt (w6.setCell ⟨g, ix, none⟩ (.int .u8 y)) (some ⟨g, 0, none⟩) cap (S.set ix y) := by have h : BRow (w6.setCell ⟨g, ix, none⟩ (.int .u8 y)) w5.heap.size (.slice (some ⟨g, 0, none⟩) (S.set ix y).length cap) (S.set ix y) := (by unfold BRow; rw [List.length_set]; exact hst); exact ⟨h.reads.2, h.reads.1⟩
        have hby7 : Bytes (S.set ix y) := fun b hb => by (rcases List.mem_or_eq_of_mem_set hb with hb | rfl; exact hby b hb; exact hy7)
        have hLc := HLA.out _ _ _ _ hBB7 hA7 hby7 (by rw [List.length_set]; omega)
        rw [List.length_set] at hLc
        generalize (loadF (S.set ix y)).1 = n8 at *
        generalize (loadF (S.set ix y)).2 = f8 at *
        refine hLc.mono ?_
        rintro e8 w8 ⟨D4, d4, D5, d5, D6, d6, rfl, hV8, hB8⟩
        have hx9 : IBox _ w8.heap.size n8 (.slice D4 n8.types.length d4) (.slice D5 n8.saved.length d5) (.slice D6 n8.seens.length d6) := blk_new w8 (.cells #[.int .i64 n8.runs, .int .i64 n8.made, .int .i64 n8.seq, .int .i64 n8.now, .slice D4 n8.types.length d4, .slice D5 n8.saved.length d5, .slice D6 n8.seens.length d6] 28)
        have HSZ := Lib.hid (below_step hb7 hB8).size
        have hb9 := below_new w8 (.cells #[.int .i64 n8.runs, .int .i64 n8.made, .int .i64 n8.seq, .int .i64 n8.now, .slice D4 n8.types.length d4, .slice D5 n8.saved.length d5, .slice D6 n8.seens.length d6] 28)
        have hb59 := below_step hb7 (below_step hB8 hb9)
        have hz := HZ0.out
        subst hz
        have HX10 := Lib.hid hx9
        have HB10 := Lib.hid hb59
        clear hx9 hb59 hb9 hV8 hB8 hLc hBB7 hA7 hby7 hb7 hst hc6 hf6
        have HA10 := Lib.hid (HA5.out.below HB10.out)
        have HRJ := Lib.hid (show ReadsInt (w8.alloc (.cells #[.int .i64 n8.runs, .int .i64 n8.made, .int .i64 n8.seq, .int .i64 n8.now, .slice D4 n8.types.length d4, .slice D5 n8.saved.length d5, .slice D6 n8.seens.length d6] 28)) .u8 A S.length S from readsInt_of.2 (Kd.reads_of_C (enc := Value.int .u8) (d := (0 : Int)) (h1 := fun _ => rfl) HA10.out.1))
        obtain ⟨jx, hjx⟩ : ∃ jx : Nat, Int.tmod K ((S.length : Int) - 5) = (jx : Int) := Int.eq_ofNat_of_zero_le (Int.tmod_nonneg _ hK0)
        have hjxl : jx + 5 < S.length := by have h := Int.tmod_lt_of_pos K (show (0 : Int) < (S.length : Int) - 5 by omega); omega
        have hln5 : ¬ (S.length : Int) - 5 = 0 := by omega
        obtain ⟨kx, hkx⟩ : ∃ kx : Nat, kx = jx + 1 := ⟨_, rfl⟩
        have hkl : kx < S.length := by omega
        have hjl : jx < S.length := by omega
        have hjw : IntKind.i64.wrap ((jx : Int) + 1) = (kx : Int) := by rw [show ((jx : Int) + 1) = (kx : Int) by omega]; rw [IntKind.wrap_i64]; omega
        have hkj : ¬ kx = jx := by omega
        have hjk : ¬ jx = kx := by omega
        have HKX := Lib.hid hkx
        have HJXL := Lib.hid hjxl
        clear hkx hjxl
        go_wp2_with (at_builtin; refine print_append_row (w0 := (w8.alloc (.cells #[.int .i64 n8.runs, .int .i64 n8.made, .int .i64 n8.seq, .int .i64 n8.now, .slice D4 n8.types.length d4, .slice D5 n8.saved.length d5, .slice D6 n8.seens.length d6] 28))) (W := (w8.alloc (.cells #[.int .i64 n8.runs, .int .i64 n8.made, .int .i64 n8.seq, .int .i64 n8.now, .slice D4 n8.types.length d4, .slice D5 n8.saved.length d5, .slice D6 n8.seens.length d6] 28))) ((w8.alloc (.cells #[.int .i64 n8.runs, .int .i64 n8.made, .int .i64 n8.seq, .int .i64 n8.now, .slice D4 n8.types.length d4, .slice D5 n8.saved.length d5, .slice D6 n8.seens.length d6] 28))).heap.size rfl _ _ 29 5 .u8 1 rfl Tryd.underlying29 info5 (by decide) (.slice none 0 0) [] S A S.length c rfl rfl (World.ownsRow_nil (w8.alloc (.cells #[.int .i64 n8.runs, .int .i64 n8.made, .int .i64 n8.seq, .int .i64 n8.now, .slice D4 n8.types.length d4, .slice D5 n8.saved.length d5, .slice D6 n8.seens.length d6] 28)) ((w8.alloc (.cells #[.int .i64 n8.runs, .int .i64 n8.made, .int .i64 n8.seq, .int .i64 n8.now, .slice D4 n8.types.length d4, .slice D5 n8.saved.length d5, .slice D6 n8.seens.length d6] 28))).heap.size 5 1) HRJ.out (Below.refl _ _) (Nat.le_refl _) (by simp only [List.length_nil]; omega) ?_; intro v11 w11 hO11 hB11 hg11 _; rw [List.nil_append] at hO11; obtain ⟨g2, cap2, rfl, hg2, _⟩ := hO11.form (by omega); have hat0 := own_at hO11 (jx : Int) (by omega) (by omega); have hat1 := own_at hO11 (kx : Int) (by omega) (by omega); obtain ⟨hc0, hf0⟩ := hat0; obtain ⟨hc1, hf1⟩ := hat1; rw [Int.toNat_natCast] at hc0 hf0 hc1 hf1; have HO11 := Lib.hid hO11; have HB11 := Lib.hid hB11; clear hO11 hB11 hg11)
        go_region_law (fail)
        all_goals
          have hS0 : rd S (jx : Int) = S[jx] := by simp [rd, List.getD_eq_getElem?_getD, List.getElem?_eq_getElem hjl]
          have hS1 : rd S (kx : Int) = S[kx] := by simp [rd, List.getD_eq_getElem?_getD, List.getElem?_eq_getElem hkl]
          rw [hS0, hS1]
          have hsw : S[jx] ≠ S[kx] → loadF ((S.set jx S[kx]).set kx S[jx]) = (zImg, 32) := by (intro hne; have e := HKX.out; have l := HJXL.out; subst e; exact damage_swap HS.out (by omega) (by omega) hne)
          have hbj := hby S[jx] (List.getElem_mem hjl)
          have hbk := hby S[kx] (List.getElem_mem hkl)
          generalize S[jx] = va at *
          generalize S[kx] = vb at *
          have st := (own_store (own_store HO11.out (jx : Int) vb).1 (kx : Int) va).1
          rw [Int.toNat_natCast, Int.toNat_natCast] at st
          have hb12 : Below ((w8.alloc (.cells #[.int .i64 n8.runs, .int .i64 n8.made, .int .i64 n8.seq, .int .i64 n8.now, .slice D4 n8.types.length d4, .slice D5 n8.saved.length d5, .slice D6 n8.seens.length d6] 28))).heap.size (w8.alloc (.cells #[.int .i64 n8.runs, .int .i64 n8.made, .int .i64 n8.seq, .int .i64 n8.now, .slice D4 n8.types.length d4, .slice D5 n8.saved.length d5, .slice D6 n8.seens.length d6] 28)) ((w11.setCell ⟨g2, jx, none⟩ (.int .u8 vb)).setCell ⟨g2, kx, none⟩ (.int .u8 va)).drew := below_drew ((HB11.out.setCell hg2 _).setCell hg2 _)
          have st2 := own_move (w1 := ((w11.setCell ⟨g2, jx, none⟩ (.int .u8 vb)).setCell ⟨g2, kx, none⟩ (.int .u8 va)).drew) st (fun k hk => rfl)
          generalize ((w11.setCell ⟨g2, jx, none⟩ (.int .u8 vb)).setCell ⟨g2, kx, none⟩ (.int .u8 va)).drew = w12 at *
          have hbyD : Bytes ((S.set jx vb).set kx va) := fun b hb => by (rcases List.mem_or_eq_of_mem_set hb with hb | rfl; (rcases List.mem_or_eq_of_mem_set hb with hb | rfl; exact hby b hb; exact hbk); exact hbj)
          have hlD : ((S.set jx vb).set kx va).length = S.length := by rw [List.length_set, List.length_set]
          have rD0 : rd ((S.set jx vb).set kx va) (jx : Int) = vb := by simp [rd, List.getD_eq_getElem?_getD, List.getElem?_set, hkj, hjl]
          have rD1 : rd ((S.set jx vb).set kx va) (kx : Int) = va := by simp [rd, List.getD_eq_getElem?_getD, List.getElem?_set, hkl]
          generalize (S.set jx vb).set kx va = D at *
          have hAD : BytesAt w12 (some ⟨g2, 0, none⟩) cap2 D := by have h : BRow w12 ((w8.alloc (.cells #[.int .i64 n8.runs, .int .i64 n8.made, .int .i64 n8.seq, .int .i64 n8.now, .slice D4 n8.types.length d4, .slice D5 n8.saved.length d5, .slice D6 n8.seens.length d6] 28))).heap.size (.slice (some ⟨g2, 0, none⟩) D.length cap2) D := (by unfold BRow; rw [hlD]; exact st2); exact ⟨h.reads.2, h.reads.1⟩
          have hBB12 := below_step HB4.out (below_step HB5.out (below_step HB10.out hb12))
          have HST := Lib.hid st2
          have HB12 := Lib.hid hb12
          by_cases hq : va = vb
          · have hLc := HLA.out _ _ _ _ hBB12 hAD hbyD (by rw [hlD]; omega)
            rw [hlD] at hLc
            generalize (loadF D).1 = n13 at *
            generalize (loadF D).2 = f13 at *
            have HLc := Lib.hid hLc
            clear hLc st st2 hb12 hBB12 hAD hc0 hf0 hc1 hf1
            go_wp2_with fail
            refine HLc.out.mono ?_
            rintro e13 w13 ⟨E4, e4, E5, e5, E6, e6, rfl, hV13, hB13⟩
            have hz := blk_below HX10.out (below_step HB12.out hB13)
            have f0 := blk_frozen hz 0
            have f1 := blk_frozen hz 1
            have f2 := blk_frozen hz 2
            have f3 := blk_frozen hz 3
            have f4 := blk_frozen hz 4
            have f5 := blk_frozen hz 5
            have f6 := blk_frozen hz 6
            have x0 := (IBox.cells hz 0).trans rfl
            have x1 := (IBox.cells hz 1).trans rfl
            have x2 := (IBox.cells hz 2).trans rfl
            have x3 := (IBox.cells hz 3).trans rfl
            have x4 := (IBox.cells hz 4).trans rfl
            have x5 := (IBox.cells hz 5).trans rfl
            have x6 := (IBox.cells hz 6).trans rfl
            go_wp2_with fail
            have hlt8 : w8.heap.size < ((w8.alloc (.cells #[.int .i64 n8.runs, .int .i64 n8.made, .int .i64 n8.seq, .int .i64 n8.now, .slice D4 n8.types.length d4, .slice D5 n8.saved.length d5, .slice D6 n8.seens.length d6] 28))).heap.size := (Array.getElem?_eq_some_iff.1 HX10.out).1
            have hg8 : g2 ≠ w8.heap.size := by omega
            have hst14 := own_move (w1 := (((((((w13.setCell ⟨w8.heap.size, 0, none⟩ (.int .i64 n13.runs)).setCell ⟨w8.heap.size, 1, none⟩ (.int .i64 n13.made)).setCell ⟨w8.heap.size, 2, none⟩ (.int .i64 n13.seq)).setCell ⟨w8.heap.size, 3, none⟩ (.int .i64 n13.now)).setCell ⟨w8.heap.size, 4, none⟩ (.slice E4 n13.types.length e4)).setCell ⟨w8.heap.size, 5, none⟩ (.slice E5 n13.saved.length e5)).setCell ⟨w8.heap.size, 6, none⟩ (.slice E6 n13.seens.length e6))) HST.out (fun k hk => by (have hk2 : g2 = k := (by simpa [Value.ownBlock] using hk); subst hk2; exact (heap7 hg8 _ _ _ _ _ _ _).trans (hB13.block _ (own_lt HST.out _ hk))))
            have hb514 := below7 (below_step HB10.out (below_step HB12.out hB13)) HSZ.out (.int .i64 n13.runs) (.int .i64 n13.made) (.int .i64 n13.seq) (.int .i64 n13.now) (.slice E4 n13.types.length e4) (.slice E5 n13.saved.length e5) (.slice E6 n13.seens.length e6)
            clear f0 f1 f2 f3 f4 f5 f6 x0 x1 x2 x3 x4 x5 x6 hz
            generalize (((((((w13.setCell ⟨w8.heap.size, 0, none⟩ (.int .i64 n13.runs)).setCell ⟨w8.heap.size, 1, none⟩ (.int .i64 n13.made)).setCell ⟨w8.heap.size, 2, none⟩ (.int .i64 n13.seq)).setCell ⟨w8.heap.size, 3, none⟩ (.int .i64 n13.now)).setCell ⟨w8.heap.size, 4, none⟩ (.slice E4 n13.types.length e4)).setCell ⟨w8.heap.size, 5, none⟩ (.slice E5 n13.saved.length e5)).setCell ⟨w8.heap.size, 6, none⟩ (.slice E6 n13.seens.length e6)) = w14 at *
            obtain ⟨cj, fj⟩ := own_at hst14 (jx : Int) (by omega) (by omega)
            obtain ⟨ck, fk⟩ := own_at hst14 (kx : Int) (by omega) (by omega)
            rw [Int.toNat_natCast, rD0] at cj
            rw [Int.toNat_natCast, rD1] at ck
            have q1 : (vb != va) = false := by simp [hq]
            have HB14 := Lib.hid (below_step HB5.out hb514)
            clear hst14 hb514 fj fk hV13 hB13 rD0 rD1 hlt8 hg8
            go_upto_region 26 with fail
            refine reg26_f _ _ _ _ _ _ _ _ _ _ _ _ _ _ _ _ _ _ _ _ _ _ _ _ _ _ _ _ _ _ _ _ _ _ _ _ _ _ _ _ _ _ _ _ _ _ _ _ _ _ _ _ _ _ _ _ _ _ _ _ _ _ _ _ _ _ _ _ _ _ _ _ _ _ _ _ _ _ _ _ _ _ _ _ _ _ _ _ _ _ _ _ _ _ _ _ _ _ _ _ _ _ _ _ _ _ _ _ _ _ _ _ _ _ _ _ _ _ _ _ _ _ (w8.heap.size) g2 S.length cap2 jx kx vb va f13 _ (fun W9 => Below w14.heap.size w14 W9) (Int.natCast_nonneg _) (by omega) (Int.natCast_nonneg _) (by omega) hjw q1  (below_drew (Below.refl _ _)) (Lib.hid (fun w9 h9 => ⟨pw_cell_below h9 cj, pw_cell_below h9 ck⟩)) _ ?_
            refine Lib.hid (fun v106 v107 v108 v109 v110 v111 v112 v113 v114 v115 v116 v117 v118 v119 v120 v121 v122 v123 v124 W15 hP15 => ?_)
            have HP15 := Lib.hid hP15
            clear hP15
            go_wp2_with fail
            go_roundw
            case rel => exact ⟨2, by omega, rfl, Lib.hid (below_step HB14.out HP15.out)⟩
            case measure => simp [intOf]
          · have hLc := HLZ.out _ _ _ _ hBB12 hAD hbyD (by rw [hlD]; omega) (hsw hq)
            rw [hlD] at hLc
            have HLc := Lib.hid hLc
            clear hLc st st2 hb12 hBB12 hAD hc0 hf0 hc1 hf1
            go_wp2_with fail
            refine HLc.out.mono ?_
            rintro e13 w13 ⟨E4, e4, E5, e5, E6, e6, rfl, hV13, hB13⟩
            have hz := blk_below HX10.out (below_step HB12.out hB13)
            have f0 := blk_frozen hz 0
            have f1 := blk_frozen hz 1
            have f2 := blk_frozen hz 2
            have f3 := blk_frozen hz 3
            have f4 := blk_frozen hz 4
            have f5 := blk_frozen hz 5
            have f6 := blk_frozen hz 6
            have x0 := (IBox.cells hz 0).trans rfl
            have x1 := (IBox.cells hz 1).trans rfl
            have x2 := (IBox.cells hz 2).trans rfl
            have x3 := (IBox.cells hz 3).trans rfl
            have x4 := (IBox.cells hz 4).trans rfl
            have x5 := (IBox.cells hz 5).trans rfl
            have x6 := (IBox.cells hz 6).trans rfl
            go_wp2_with fail
            have hp : IBox (((((((w13.setCell ⟨w8.heap.size, 0, none⟩ (.int .i64 0)).setCell ⟨w8.heap.size, 1, none⟩ (.int .i64 0)).setCell ⟨w8.heap.size, 2, none⟩ (.int .i64 0)).setCell ⟨w8.heap.size, 3, none⟩ (.int .i64 0)).setCell ⟨w8.heap.size, 4, none⟩ (.slice E4 0 e4)).setCell ⟨w8.heap.size, 5, none⟩ (.slice E5 0 e5)).setCell ⟨w8.heap.size, 6, none⟩ (.slice E6 0 e6)) w8.heap.size zImg (.slice E4 0 e4) (.slice E5 0 e5) (.slice E6 0 e6) := IBox.putz (m := n8) hz _ _ _
            have hlt8 : w8.heap.size < ((w8.alloc (.cells #[.int .i64 n8.runs, .int .i64 n8.made, .int .i64 n8.seq, .int .i64 n8.now, .slice D4 n8.types.length d4, .slice D5 n8.saved.length d5, .slice D6 n8.seens.length d6] 28))).heap.size := (Array.getElem?_eq_some_iff.1 HX10.out).1
            have hg8 : g2 ≠ w8.heap.size := by omega
            have hst14 := own_move (w1 := (((((((w13.setCell ⟨w8.heap.size, 0, none⟩ (.int .i64 0)).setCell ⟨w8.heap.size, 1, none⟩ (.int .i64 0)).setCell ⟨w8.heap.size, 2, none⟩ (.int .i64 0)).setCell ⟨w8.heap.size, 3, none⟩ (.int .i64 0)).setCell ⟨w8.heap.size, 4, none⟩ (.slice E4 0 e4)).setCell ⟨w8.heap.size, 5, none⟩ (.slice E5 0 e5)).setCell ⟨w8.heap.size, 6, none⟩ (.slice E6 0 e6))) HST.out (fun k hk => by (obtain rfl : g2 = k := by simpa [Value.ownBlock] using hk); exact (heap7 hg8 _ _ _ _ _ _ _).trans (hB13.block _ (own_lt HST.out _ hk)))
            have hV14 : ImgV (((((((w13.setCell ⟨w8.heap.size, 0, none⟩ (.int .i64 0)).setCell ⟨w8.heap.size, 1, none⟩ (.int .i64 0)).setCell ⟨w8.heap.size, 2, none⟩ (.int .i64 0)).setCell ⟨w8.heap.size, 3, none⟩ (.int .i64 0)).setCell ⟨w8.heap.size, 4, none⟩ (.slice E4 0 e4)).setCell ⟨w8.heap.size, 5, none⟩ (.slice E5 0 e5)).setCell ⟨w8.heap.size, 6, none⟩ (.slice E6 0 e6)) zImg E4 e4 E5 e5 E6 e6 := ⟨⟨⟨rfl, by simp [zImg], fun h => absurd h (Nat.lt_irrefl 0)⟩, hV13.1.2⟩, ⟨⟨rfl, by simp [zImg], fun h => absurd h (Nat.lt_irrefl 0)⟩, hV13.2.1.2⟩, ⟨⟨rfl, by simp [zImg], fun h => absurd h (Nat.lt_irrefl 0)⟩, hV13.2.2.2⟩⟩
            have hb514 := below7 (below_step HB10.out (below_step HB12.out hB13)) HSZ.out (.int .i64 0) (.int .i64 0) (.int .i64 0) (.int .i64 0) (.slice E4 0 e4) (.slice E5 0 e5) (.slice E6 0 e6)
            clear f0 f1 f2 f3 f4 f5 f6 x0 x1 x2 x3 x4 x5 x6 hz
            generalize (((((((w13.setCell ⟨w8.heap.size, 0, none⟩ (.int .i64 0)).setCell ⟨w8.heap.size, 1, none⟩ (.int .i64 0)).setCell ⟨w8.heap.size, 2, none⟩ (.int .i64 0)).setCell ⟨w8.heap.size, 3, none⟩ (.int .i64 0)).setCell ⟨w8.heap.size, 4, none⟩ (.slice E4 0 e4)).setCell ⟨w8.heap.size, 5, none⟩ (.slice E5 0 e5)).setCell ⟨w8.heap.size, 6, none⟩ (.slice E6 0 e6)) = w14 at *
            have z0 : w14.cell? ⟨w8.heap.size, 0, none⟩ = some (.int .i64 0) := (IBox.cells hp 0).trans rfl
            have z1 : w14.cell? ⟨w8.heap.size, 1, none⟩ = some (.int .i64 0) := (IBox.cells hp 1).trans rfl
            have z2 : w14.cell? ⟨w8.heap.size, 2, none⟩ = some (.int .i64 0) := (IBox.cells hp 2).trans rfl
            have z3 : w14.cell? ⟨w8.heap.size, 3, none⟩ = some (.int .i64 0) := (IBox.cells hp 3).trans rfl
            have z4 : w14.cell? ⟨w8.heap.size, 4, none⟩ = some (.slice E4 0 e4) := (IBox.cells hp 4).trans rfl
            have z5 : w14.cell? ⟨w8.heap.size, 5, none⟩ = some (.slice E5 0 e5) := (IBox.cells hp 5).trans rfl
            have z6 : w14.cell? ⟨w8.heap.size, 6, none⟩ = some (.slice E6 0 e6) := (IBox.cells hp 6).trans rfl
            obtain ⟨cj, fj⟩ := own_at hst14 (jx : Int) (by omega) (by omega)
            obtain ⟨ck, fk⟩ := own_at hst14 (kx : Int) (by omega) (by omega)
            rw [Int.toNat_natCast, rD0] at cj
            rw [Int.toNat_natCast, rD1] at ck
            have q1 : (vb != va) = true := by simpa using Ne.symm hq
            have HZI := Lib.hid (fun (W : World) (hW : Below w14.heap.size w14 W) => HZ.out W _ _ _ _ _ _ (hV14.below hW))
            have HB14 := Lib.hid (below_step HB5.out hb514)
            clear hst14 hV14 hb514 hp fj fk hV13 hB13 rD0 rD1 hlt8 hg8
            go_upto_region 26 with fail
            refine reg26_t _ _ _ _ _ _ _ _ _ _ _ _ _ _ _ _ _ _ _ _ _ _ _ _ _ _ _ _ _ _ _ _ _ _ _ _ _ _ _ _ _ _ _ _ _ _ _ _ _ _ _ _ _ _ _ _ _ _ _ _ _ _ _ _ _ _ _ _ _ _ _ _ _ _ _ _ _ _ _ _ _ _ _ _ _ _ _ _ _ _ _ _ _ _ _ _ _ _ _ _ _ _ _ _ _ _ _ _ _ _ _ _ _ _ _ _ _ _ _ _ _ _ (w8.heap.size) g2 S.length cap2 jx kx vb va (.int .i64 0) (.int .i64 0) (.int .i64 0) (.int .i64 0) (.slice E4 0 e4) (.slice E5 0 e5) (.slice E6 0 e6) _ (fun W9 => Below w14.heap.size w14 W9) (fun W9 => Below w14.heap.size w14 W9) (Int.natCast_nonneg _) (by omega) (Int.natCast_nonneg _) (by omega) hjw q1 (Lib.hid (fun W9 h9 => (HZI.out W9 h9).mono (fun e9 x9 h => ⟨h.1, below_step h9 h.2⟩))) (below_drew (Below.refl _ _)) (Lib.hid (fun w9 h9 => ⟨pw_cell_below h9 cj, pw_cell_below h9 ck, pw_cell_below h9 z0, pw_cell_below h9 z1, pw_cell_below h9 z2, pw_cell_below h9 z3, pw_cell_below h9 z4, pw_cell_below h9 z5, pw_cell_below h9 z6⟩)) (Lib.hid (fun w9 h9 => ⟨pw_cell_below h9 cj, pw_cell_below h9 ck, pw_cell_below h9 z0, pw_cell_below h9 z1, pw_cell_below h9 z2, pw_cell_below h9 z3, pw_cell_below h9 z4, pw_cell_below h9 z5, pw_cell_below h9 z6⟩)) _ ?_
            refine Lib.hid (fun v106 v107 v108 v109 v110 v111 v112 v113 v114 v115 v116 v117 v118 v119 v120 v121 v122 v123 v124 W15 hP15 => ?_)
            have HP15 := Lib.hid hP15
            clear hP15
            go_wp2_with fail
            go_roundw
            case rel => exact ⟨2, by omega, rfl, Lib.hid (below_step HB14.out HP15.out)⟩
            case measure => simp [intOf]
      · have e1 : (e0 != 0) = true := by simpa using he
        go_wp2_with fail
        go_roundw
        case rel => exact ⟨2, by omega, rfl, HB5⟩
        case measure => simp [intOf]
    · go_wp2_with fail
      go_ret
      exact ⟨rfl, below_step HB4.out HB.out⟩
end Go.Proofs.YtcfgmkmllcfjjaaDoor
