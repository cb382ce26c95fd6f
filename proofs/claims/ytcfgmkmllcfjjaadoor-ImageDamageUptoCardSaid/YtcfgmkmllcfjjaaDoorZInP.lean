import Derived.Test.YtcfgmkmllcfjjaaDoorZInO
set_option linter.unusedVariables false
set_option linter.unusedSimpArgs false
namespace Go.Proofs.YtcfgmkmllcfjjaaDoor
open Go.RowKit Go.Proofs.YtcfgmkmllcfjjaaDoorW.PrintWords Go.Proofs.YtcfgmkmllcfjjaaDoorW.PrintMore PImageForm
def BytesAt (W : World) (A : Option Addr) (c : Nat) (L : List Int) : Prop := Kd.C (Kd.int .u8) W A L.length L ∧ L.length ≤ c
theorem BytesAt.below {w w' : World} {A : Option Addr} {c : Nat} {L : List Int} (h : BytesAt w A c L) (hB : Below w.heap.size w w') : BytesAt w' A c L := ⟨Kd.C_below h.1 hB, h.2⟩
theorem zero_B : ImgB zImg := by
  refine imgB_of ?_ ?_ ?_ ?_ ?_
  · show 0 ≤ _; omega
  · show 0 ≤ _; omega
  · show 0 ≤ _; omega
  · intro x hx; exact absurd hx (by show x ∉ ([] : List S64); simp)
  · intro x hx; exact absurd hx (by show x ∉ ([] : List S71); simp)
theorem zero_V (w : World) : ImgV w zImg none 0 none 0 none 0 := ⟨⟨Kd.C_nil _ _, Nat.le_refl _⟩, ⟨Kd.C_nil _ _, Nat.le_refl _⟩, ⟨Kd.C_nil _ _, Nat.le_refl _⟩⟩
theorem load_I {L : List Int} {n : Img} (hB : Bytes L) (h : loadF L = (n, 0)) : ImgI n ∧ n.seens.length ≤ 100000000 := by
  unfold loadF at h
  by_cases h1 : 67108864 < L.length
  · rw [if_pos h1] at h
    exact absurd (congrArg Prod.snd h) (show (2 : Int) ≠ 0 by decide)
  · rw [if_neg h1] at h
    by_cases h2 : L.length < 8
    · rw [if_pos h2] at h
      exact absurd (congrArg Prod.snd h) (show (30 : Int) ≠ 0 by decide)
    · rw [if_neg h2] at h
      by_cases h3 : sumB (L.take (L.length - 4)) = L.drop (L.length - 4)
      · rw [if_pos h3] at h
        by_cases h4 : (loadM L).1.2 = true ∨ 0 < (loadM L).1.1.length
        · rw [if_pos h4] at h
          exact absurd (congrArg Prod.snd h) (show (220 : Int) ≠ 0 by decide)
        · rw [if_neg h4] at h
          by_cases h5 : saveE (loadM L).2 = 0 ∧ saveB (loadM L).2 = L
          · rw [if_pos h5] at h
            have hR : Rok (L.take (L.length - 4), false) := ⟨fun b hb => hB b (List.mem_of_mem_take hb), by show (L.take (L.length - 4)).length ≤ _; rw [List.length_take]; omega⟩
            have ht : (L.take (L.length - 4)).length ≤ 67108864 := by rw [List.length_take]; omega
            obtain ⟨i1, i2⟩ := tail_I64 (B := 67108864) hR ht (by decide)
            have hn : (loadM L).2 = n := congrArg Prod.fst h
            unfold loadM at hn
            rw [hn] at i1 i2
            refine ⟨i1, ?_⟩
            have i3 : n.seens.length ≤ (L.take (L.length - 4)).length + 1 := i2
            omega
          · rw [if_neg h5] at h
            exact absurd (congrArg Prod.snd h) (show (220 : Int) ≠ 0 by decide)
      · rw [if_neg h3] at h
        exact absurd (congrArg Prod.snd h) (show (32 : Int) ≠ 0 by decide)
theorem saved_any {W : World} {m : Img} {A4 A5 A6 : Option Addr} {c4 c5 c6 : Nat} {S : List Int} {e0 : Int} (hG : GW W) (hm : ImgI m) (hV : ImgV W m A4 c4 A5 c5 A6 c6) (hl : m.seens.length ≤ 100000000) (hS : saveB m = S) (hE : saveE m = e0) :
    Calls Tryd.prog 6 #[imgV m (.slice A4 m.types.length c4) (.slice A5 m.saved.length c5) (.slice A6 m.seens.length c6)] W (fun e w' => ∃ A c, e = .returned (.tuple #[.slice A S.length c, .int .i64 e0]) ∧ BytesAt w' A c S ∧ Below W.heap.size W w') := by
  subst hS hE
  refine (Save_any hG hm hV (fun h => laid_len hm hl h)).mono ?_
  intro e w' h
  obtain ⟨A, c, h1, h2, h3, h4⟩ := h.read
  exact ⟨A, c, h1, ⟨h2, h3⟩, h4⟩
theorem loaded_any {W : World} {A : Option Addr} {c : Nat} {L : List Int} {n : Img} {f : Int} (hG : GW W) (hA : BytesAt W A c L) (hB : Bytes L) (hL : L.length ≤ 67108864) (h : loadF L = (n, f)) :
    Calls Tryd.prog 7 #[.slice A L.length c] W (fun e w' => ∃ A4 c4 A5 c5 A6 c6, e = .returned (.tuple #[imgV n (.slice A4 n.types.length c4) (.slice A5 n.saved.length c5) (.slice A6 n.seens.length c6), .int .i64 f]) ∧ ImgV w' n A4 c4 A5 c5 A6 c6 ∧ Below W.heap.size W w') := by
  refine (Load_any hG hA.1 hA.2 hB (by omega)).mono ?_
  intro e w' h1
  have := h1.read
  rw [h] at this
  exact this
theorem zimgV (B4 B5 B6 : Option Addr) (b4 b5 b6 : Nat) : imgV zImg (.slice B4 zImg.types.length b4) (.slice B5 zImg.saved.length b5) (.slice B6 zImg.seens.length b6) = .agg #[.int .i64 0, .int .i64 0, .int .i64 0, .int .i64 0, .slice B4 0 b4, .slice B5 0 b5, .slice B6 0 b6] := rfl
theorem zimages_any {w : World} {B4 B5 B6 : Option Addr} {b4 b5 b6 : Nat} (h1 : ImgV w zImg B4 b4 B5 b5 B6 b6) :
    Calls Tryd.prog 8 #[.agg #[.int .i64 0, .int .i64 0, .int .i64 0, .int .i64 0, .slice B4 0 b4, .slice B5 0 b5, .slice B6 0 b6], .agg #[.int .i64 0, .int .i64 0, .int .i64 0, .int .i64 0, .slice none 0 0, .slice none 0 0, .slice none 0 0]] w fun e w' => e = .returned (.bool true) ∧ Below w.heap.size w w' := by
  have h := images_any zero_B h1 (zero_V w)
  rw [zimgV, zimgV] at h
  exact h
theorem zloaded_any {W : World} {A : Option Addr} {c : Nat} {L : List Int} {f : Int} (hG : GW W) (hA : BytesAt W A c L) (hB : Bytes L) (hL : L.length ≤ 67108864) (h : loadF L = (zImg, f)) :
    Calls Tryd.prog 7 #[.slice A L.length c] W (fun e w' => ∃ A4 c4 A5 c5 A6 c6, e = .returned (.tuple #[.agg #[.int .i64 0, .int .i64 0, .int .i64 0, .int .i64 0, .slice A4 0 c4, .slice A5 0 c5, .slice A6 0 c6], .int .i64 f]) ∧ ImgV w' zImg A4 c4 A5 c5 A6 c6 ∧ Below W.heap.size W w') := loaded_any hG hA hB hL h
set_option maxRecDepth 100000 in
set_option maxHeartbeats 8000000 in
theorem form_11 {w : World} {m n : Img} {A A4 A5 A6 : Option Addr} {c c4 c5 c6 : Nat} {L S : List Int} {e0 f0 : Int} (hG : GW w) (hm : ImgI m) (hIB : ImgB m) (hV : ImgV w m A4 c4 A5 c5 A6 c6) (hl : m.seens.length ≤ 100000000) (hA : BytesAt w A c L) (hBy : Bytes L) (hL : L.length ≤ 67108864) (hS : saveB m = S) (hE : saveE m = 0) (hF : loadF L = (n, 0)) :
    Calls Tryd.prog 3 #[imgV m (.slice A4 m.types.length c4) (.slice A5 m.saved.length c5) (.slice A6 m.seens.length c6), .slice A L.length c] w fun e w' => e = .returned (.bool true) ∧ Below w.heap.size w w' := by
  have HBG := Lib.hid (show ∀ W : World, Below w.heap.size w W → Calls Tryd.prog 5 #[] W (fun e w' => e = .returned (.bool true) ∧ Below W.heap.size W w') from fun W hW => begun_any W (hG.below hW))
  have HSV := Lib.hid (fun (W : World) (hW : Below w.heap.size w W) => saved_any (hG.below hW) hm (hV.below hW) hl hS hE)
  have hSS := save_summed hm hE
  rw [hS] at hSS
  have h8 : 8 ≤ S.length := hSS.lo
  have hF1 : loadF S = (m, 0) := by rw [← hS]; exact load_save hm hE
  have HL1 := Lib.hid (fun (W : World) (A : Option Addr) (c : Nat) (hW : Below w.heap.size w W) (hA : BytesAt W A c S) => loaded_any (hG.below hW) hA hSS.bytes hSS.hi hF1)
  have HIM := Lib.hid (fun (W : World) B4 b4 B5 b5 B6 b6 (hW : Below w.heap.size w W) (h : ImgV W m B4 b4 B5 b5 B6 b6) => images_any hIB (hV.below hW) h)
  have d8 : decide ((S.length : Int) < 8) = false := decide_eq_false (by omega)
  have d8n : decide (S.length < 8) = false := decide_eq_false (by omega)
  have HL2 := Lib.hid (fun (W : World) (hW : Below w.heap.size w W) => loaded_any (hG.below hW) (hA.below hW) hBy hL hF)
  have hnI := load_I hBy hF
  have hno := load_ok hF
  have HS2 := Lib.hid (fun (W : World) B4 b4 B5 b5 B6 b6 (hW : Below w.heap.size w W) (h : ImgV W n B4 b4 B5 b5 B6 b6) => saved_any (hG.below hW) hnI.1 h hnI.2 hno.2 hno.1)
  have HSA := Lib.hid (fun (W : World) A' c' (hW : Below w.heap.size w W) (h : BytesAt W A' c' L) => same_any (by omega) h.1 h.2 (hA.below hW).1 hA.2)
  clear hnI hno
  clear hG hm hIB hV hl hA hBy hL hS hE hSS h8 hF1 hF
  unfold imgV at *
  go_enter Tryd.func3, Tryd.ntmps3
  go_wp2_with fail
  have hb0 := below_new w (.cells #[.int .i64 m.runs, .int .i64 m.made, .int .i64 m.seq, .int .i64 m.now, .slice A4 m.types.length c4, .slice A5 m.saved.length c5, .slice A6 m.seens.length c6] 28)
  refine (HBG.out _ hb0).mono ?_
  rintro e1 w1 ⟨rfl, hB1⟩
  have hx : IBox _ w.heap.size m (.slice A4 m.types.length c4) (.slice A5 m.saved.length c5) (.slice A6 m.seens.length c6) := blk_new w (.cells #[.int .i64 m.runs, .int .i64 m.made, .int .i64 m.seq, .int .i64 m.now, .slice A4 m.types.length c4, .slice A5 m.saved.length c5, .slice A6 m.seens.length c6] 28)
  have hx1 := blk_below hx hB1
  have HB1 := Lib.hid (below_step hb0 hB1)
  have x0 := (IBox.cells hx1 0).trans rfl
  have x1 := (IBox.cells hx1 1).trans rfl
  have x2 := (IBox.cells hx1 2).trans rfl
  have x3 := (IBox.cells hx1 3).trans rfl
  have x4 := (IBox.cells hx1 4).trans rfl
  have x5 := (IBox.cells hx1 5).trans rfl
  have x6 := (IBox.cells hx1 6).trans rfl
  have HX1 := Lib.hid hx1
  clear hx hx1 hb0 hB1
  go_wp2_with fail
  refine (HSV.out _ HB1.out).mono ?_
  rintro e2 w2 ⟨A7, c7, rfl, hA2, hB2⟩
  have HB2 := Lib.hid (below_step HB1.out hB2)
  have HX2 := Lib.hid (blk_below HX1.out hB2)
  have HA2 := Lib.hid hA2
  clear hB2 hA2 x0 x1 x2 x3 x4 x5 x6
  go_wp2_with fail
  refine (HL1.out _ _ _ HB2.out HA2.out).mono ?_
  rintro e3 w3 ⟨B4, b4, B5, b5, B6, b6, rfl, hV3, hB3⟩
  have hb4 := below_new w3 (.cells #[.int .i64 m.runs, .int .i64 m.made, .int .i64 m.seq, .int .i64 m.now, .slice B4 m.types.length b4, .slice B5 m.saved.length b5, .slice B6 m.seens.length b6] 28)
  have hb := below_step hB3 hb4
  have HB4 := Lib.hid (below_step HB2.out hb)
  have hx4 := blk_below HX2.out hb
  have x0 := (IBox.cells hx4 0).trans rfl
  have x1 := (IBox.cells hx4 1).trans rfl
  have x2 := (IBox.cells hx4 2).trans rfl
  have x3 := (IBox.cells hx4 3).trans rfl
  have x4 := (IBox.cells hx4 4).trans rfl
  have x5 := (IBox.cells hx4 5).trans rfl
  have x6 := (IBox.cells hx4 6).trans rfl
  have HI4 := Lib.hid (HIM.out _ _ _ _ _ _ _ HB4.out (hV3.below hb4))
  clear hV3 hB3 hb4 hb hx4
  go_wp2_with fail
  refine HI4.out.mono ?_
  rintro e5 w5 ⟨rfl, hB5⟩
  have HB5 := Lib.hid (below_step HB4.out hB5)
  clear hB5 x0 x1 x2 x3 x4 x5 x6
  go_wp2_with fail
  refine (HL2.out _ HB5.out).mono ?_
  rintro e6 w6 ⟨D4, d4, D5, d5, D6, d6, rfl, hV6, hB6⟩
  have hb7 := below_new w6 (.cells #[.int .i64 n.runs, .int .i64 n.made, .int .i64 n.seq, .int .i64 n.now, .slice D4 n.types.length d4, .slice D5 n.saved.length d5, .slice D6 n.seens.length d6] 28)
  have hb := below_step hB6 hb7
  have HB7 := Lib.hid (below_step HB5.out hb)
  have HS7 := Lib.hid (HS2.out _ _ _ _ _ _ _ HB7.out (hV6.below hb7))
  clear hV6 hB6 hb7 hb
  go_wp2_with fail
  refine HS7.out.mono ?_
  rintro e8 w8 ⟨A8, c8, rfl, hA8, hB8⟩
  have HB8 := Lib.hid (below_step HB7.out hB8)
  have HSA8 := Lib.hid (HSA.out _ _ _ HB8.out hA8)
  clear hA8 hB8
  go_wp2_with fail
  refine HSA8.out.mono ?_
  rintro e9 w9 ⟨rfl, ⟨n9, rfl⟩⟩
  go_wp2_with fail
  go_ret
  exact ⟨rfl, below_step HB8.out (pw_below_drewN (Below.refl w8.heap.size w8) n9)⟩
set_option maxRecDepth 100000 in
set_option maxHeartbeats 8000000 in
theorem form_10 {w : World} {m n : Img} {A A4 A5 A6 : Option Addr} {c c4 c5 c6 : Nat} {L S : List Int} {e0 f0 : Int} (hG : GW w) (hm : ImgI m) (hIB : ImgB m) (hV : ImgV w m A4 c4 A5 c5 A6 c6) (hl : m.seens.length ≤ 100000000) (hA : BytesAt w A c L) (hBy : Bytes L) (hL : L.length ≤ 67108864) (hS : saveB m = S) (hE : saveE m = 0) (hF : loadF L = (zImg, f0)) :
    (hf0 : f0 ≠ 0) → Calls Tryd.prog 3 #[imgV m (.slice A4 m.types.length c4) (.slice A5 m.saved.length c5) (.slice A6 m.seens.length c6), .slice A L.length c] w fun e w' => e = .returned (.bool true) ∧ Below w.heap.size w w' := by
  intro hf0
  have HBG := Lib.hid (show ∀ W : World, Below w.heap.size w W → Calls Tryd.prog 5 #[] W (fun e w' => e = .returned (.bool true) ∧ Below W.heap.size W w') from fun W hW => begun_any W (hG.below hW))
  have HSV := Lib.hid (fun (W : World) (hW : Below w.heap.size w W) => saved_any (hG.below hW) hm (hV.below hW) hl hS hE)
  have hSS := save_summed hm hE
  rw [hS] at hSS
  have h8 : 8 ≤ S.length := hSS.lo
  have hF1 : loadF S = (m, 0) := by rw [← hS]; exact load_save hm hE
  have HL1 := Lib.hid (fun (W : World) (A : Option Addr) (c : Nat) (hW : Below w.heap.size w W) (hA : BytesAt W A c S) => loaded_any (hG.below hW) hA hSS.bytes hSS.hi hF1)
  have HIM := Lib.hid (fun (W : World) B4 b4 B5 b5 B6 b6 (hW : Below w.heap.size w W) (h : ImgV W m B4 b4 B5 b5 B6 b6) => images_any hIB (hV.below hW) h)
  have d8 : decide ((S.length : Int) < 8) = false := decide_eq_false (by omega)
  have d8n : decide (S.length < 8) = false := decide_eq_false (by omega)
  have HL2 := Lib.hid (fun (W : World) (hW : Below w.heap.size w W) => zloaded_any (hG.below hW) (hA.below hW) hBy hL hF)
  have HZ := Lib.hid (fun (W : World) B4 b4 B5 b5 B6 b6 (h : ImgV W zImg B4 b4 B5 b5 B6 b6) => zimages_any h)
  have f1 : (f0 != 0) = true := by simpa using hf0
  clear hG hm hIB hV hl hA hBy hL hS hE hSS h8 hF1 hF hf0
  unfold imgV at *
  go_enter Tryd.func3, Tryd.ntmps3
  go_wp2_with fail
  have hb0 := below_new w (.cells #[.int .i64 m.runs, .int .i64 m.made, .int .i64 m.seq, .int .i64 m.now, .slice A4 m.types.length c4, .slice A5 m.saved.length c5, .slice A6 m.seens.length c6] 28)
  refine (HBG.out _ hb0).mono ?_
  rintro e1 w1 ⟨rfl, hB1⟩
  have hx : IBox _ w.heap.size m (.slice A4 m.types.length c4) (.slice A5 m.saved.length c5) (.slice A6 m.seens.length c6) := blk_new w (.cells #[.int .i64 m.runs, .int .i64 m.made, .int .i64 m.seq, .int .i64 m.now, .slice A4 m.types.length c4, .slice A5 m.saved.length c5, .slice A6 m.seens.length c6] 28)
  have hx1 := blk_below hx hB1
  have HB1 := Lib.hid (below_step hb0 hB1)
  have x0 := (IBox.cells hx1 0).trans rfl
  have x1 := (IBox.cells hx1 1).trans rfl
  have x2 := (IBox.cells hx1 2).trans rfl
  have x3 := (IBox.cells hx1 3).trans rfl
  have x4 := (IBox.cells hx1 4).trans rfl
  have x5 := (IBox.cells hx1 5).trans rfl
  have x6 := (IBox.cells hx1 6).trans rfl
  have HX1 := Lib.hid hx1
  clear hx hx1 hb0 hB1
  go_wp2_with fail
  refine (HSV.out _ HB1.out).mono ?_
  rintro e2 w2 ⟨A7, c7, rfl, hA2, hB2⟩
  have HB2 := Lib.hid (below_step HB1.out hB2)
  have HX2 := Lib.hid (blk_below HX1.out hB2)
  have HA2 := Lib.hid hA2
  clear hB2 hA2 x0 x1 x2 x3 x4 x5 x6
  go_wp2_with fail
  refine (HL1.out _ _ _ HB2.out HA2.out).mono ?_
  rintro e3 w3 ⟨B4, b4, B5, b5, B6, b6, rfl, hV3, hB3⟩
  have hb4 := below_new w3 (.cells #[.int .i64 m.runs, .int .i64 m.made, .int .i64 m.seq, .int .i64 m.now, .slice B4 m.types.length b4, .slice B5 m.saved.length b5, .slice B6 m.seens.length b6] 28)
  have hb := below_step hB3 hb4
  have HB4 := Lib.hid (below_step HB2.out hb)
  have hx4 := blk_below HX2.out hb
  have x0 := (IBox.cells hx4 0).trans rfl
  have x1 := (IBox.cells hx4 1).trans rfl
  have x2 := (IBox.cells hx4 2).trans rfl
  have x3 := (IBox.cells hx4 3).trans rfl
  have x4 := (IBox.cells hx4 4).trans rfl
  have x5 := (IBox.cells hx4 5).trans rfl
  have x6 := (IBox.cells hx4 6).trans rfl
  have HI4 := Lib.hid (HIM.out _ _ _ _ _ _ _ HB4.out (hV3.below hb4))
  clear hV3 hB3 hb4 hb hx4
  go_wp2_with fail
  refine HI4.out.mono ?_
  rintro e5 w5 ⟨rfl, hB5⟩
  have HB5 := Lib.hid (below_step HB4.out hB5)
  clear hB5 x0 x1 x2 x3 x4 x5 x6
  go_wp2_with fail
  refine (HL2.out _ HB5.out).mono ?_
  rintro e6 w6 ⟨D4, d4, D5, d5, D6, d6, rfl, hV6, hB6⟩
  have hb7 := below_new w6 (.cells #[.int .i64 0, .int .i64 0, .int .i64 0, .int .i64 0, .slice D4 0 d4, .slice D5 0 d5, .slice D6 0 d6] 28)
  have hb := below_step hB6 hb7
  have HB7 := Lib.hid (below_step HB5.out hb)
  have HI7 := Lib.hid (HZ.out _ _ _ _ _ _ _ (hV6.below hb7))
  clear hV6 hB6 hb7 hb
  go_wp2_with fail
  refine HI7.out.mono ?_
  rintro e8 w8 ⟨rfl, hB8⟩
  have HB8 := Lib.hid (below_step HB7.out hB8)
  clear hB8
  go_wp2_with fail
  go_ret
  exact ⟨rfl, HB8.out⟩
set_option maxRecDepth 100000 in
set_option maxHeartbeats 8000000 in
theorem form_01 {w : World} {m n : Img} {A A4 A5 A6 : Option Addr} {c c4 c5 c6 : Nat} {L S : List Int} {e0 f0 : Int} (hG : GW w) (hm : ImgI m) (hIB : ImgB m) (hV : ImgV w m A4 c4 A5 c5 A6 c6) (hl : m.seens.length ≤ 100000000) (hA : BytesAt w A c L) (hBy : Bytes L) (hL : L.length ≤ 67108864) (hS : saveB m = S) (hE : saveE m = e0) (hE0 : e0 ≠ 0) (hF : loadF L = (n, 0)) :
    Calls Tryd.prog 3 #[imgV m (.slice A4 m.types.length c4) (.slice A5 m.saved.length c5) (.slice A6 m.seens.length c6), .slice A L.length c] w fun e w' => e = .returned (.bool true) ∧ Below w.heap.size w w' := by
  have HBG := Lib.hid (show ∀ W : World, Below w.heap.size w W → Calls Tryd.prog 5 #[] W (fun e w' => e = .returned (.bool true) ∧ Below W.heap.size W w') from fun W hW => begun_any W (hG.below hW))
  have HSV := Lib.hid (fun (W : World) (hW : Below w.heap.size w W) => saved_any (hG.below hW) hm (hV.below hW) hl hS hE)
  have HL2 := Lib.hid (fun (W : World) (hW : Below w.heap.size w W) => loaded_any (hG.below hW) (hA.below hW) hBy hL hF)
  have hnI := load_I hBy hF
  have hno := load_ok hF
  have HS2 := Lib.hid (fun (W : World) B4 b4 B5 b5 B6 b6 (hW : Below w.heap.size w W) (h : ImgV W n B4 b4 B5 b5 B6 b6) => saved_any (hG.below hW) hnI.1 h hnI.2 hno.2 hno.1)
  have HSA := Lib.hid (fun (W : World) A' c' (hW : Below w.heap.size w W) (h : BytesAt W A' c' L) => same_any (by omega) h.1 h.2 (hA.below hW).1 hA.2)
  clear hnI hno
  have e1 : (e0 == 0) = false := by simpa using hE0
  clear hG hm hIB hV hl hA hBy hL hS hE hE0 hF
  unfold imgV at *
  go_enter Tryd.func3, Tryd.ntmps3
  go_wp2_with fail
  have hb0 := below_new w (.cells #[.int .i64 m.runs, .int .i64 m.made, .int .i64 m.seq, .int .i64 m.now, .slice A4 m.types.length c4, .slice A5 m.saved.length c5, .slice A6 m.seens.length c6] 28)
  refine (HBG.out _ hb0).mono ?_
  rintro e1 w1 ⟨rfl, hB1⟩
  have hx : IBox _ w.heap.size m (.slice A4 m.types.length c4) (.slice A5 m.saved.length c5) (.slice A6 m.seens.length c6) := blk_new w (.cells #[.int .i64 m.runs, .int .i64 m.made, .int .i64 m.seq, .int .i64 m.now, .slice A4 m.types.length c4, .slice A5 m.saved.length c5, .slice A6 m.seens.length c6] 28)
  have hx1 := blk_below hx hB1
  have HB1 := Lib.hid (below_step hb0 hB1)
  have x0 := (IBox.cells hx1 0).trans rfl
  have x1 := (IBox.cells hx1 1).trans rfl
  have x2 := (IBox.cells hx1 2).trans rfl
  have x3 := (IBox.cells hx1 3).trans rfl
  have x4 := (IBox.cells hx1 4).trans rfl
  have x5 := (IBox.cells hx1 5).trans rfl
  have x6 := (IBox.cells hx1 6).trans rfl
  have HX1 := Lib.hid hx1
  clear hx hx1 hb0 hB1
  go_wp2_with fail
  refine (HSV.out _ HB1.out).mono ?_
  rintro e2 w2 ⟨A7, c7, rfl, hA2, hB2⟩
  have HB2 := Lib.hid (below_step HB1.out hB2)
  have HX2 := Lib.hid (blk_below HX1.out hB2)
  have HA2 := Lib.hid hA2
  clear hB2 hA2 x0 x1 x2 x3 x4 x5 x6
  go_wp2_with fail
  refine (HL2.out _ HB2.out).mono ?_
  rintro e6 w6 ⟨D4, d4, D5, d5, D6, d6, rfl, hV6, hB6⟩
  have hb7 := below_new w6 (.cells #[.int .i64 n.runs, .int .i64 n.made, .int .i64 n.seq, .int .i64 n.now, .slice D4 n.types.length d4, .slice D5 n.saved.length d5, .slice D6 n.seens.length d6] 28)
  have hb := below_step hB6 hb7
  have HB7 := Lib.hid (below_step HB2.out hb)
  have HS7 := Lib.hid (HS2.out _ _ _ _ _ _ _ HB7.out (hV6.below hb7))
  clear hV6 hB6 hb7 hb
  go_wp2_with fail
  refine HS7.out.mono ?_
  rintro e8 w8 ⟨A8, c8, rfl, hA8, hB8⟩
  have HB8 := Lib.hid (below_step HB7.out hB8)
  have HSA8 := Lib.hid (HSA.out _ _ _ HB8.out hA8)
  clear hA8 hB8
  go_wp2_with fail
  refine HSA8.out.mono ?_
  rintro e9 w9 ⟨rfl, ⟨n9, rfl⟩⟩
  go_wp2_with fail
  go_ret
  exact ⟨rfl, below_step HB8.out (pw_below_drewN (Below.refl w8.heap.size w8) n9)⟩
set_option maxRecDepth 100000 in
set_option maxHeartbeats 8000000 in
theorem form_00 {w : World} {m n : Img} {A A4 A5 A6 : Option Addr} {c c4 c5 c6 : Nat} {L S : List Int} {e0 f0 : Int} (hG : GW w) (hm : ImgI m) (hIB : ImgB m) (hV : ImgV w m A4 c4 A5 c5 A6 c6) (hl : m.seens.length ≤ 100000000) (hA : BytesAt w A c L) (hBy : Bytes L) (hL : L.length ≤ 67108864) (hS : saveB m = S) (hE : saveE m = e0) (hE0 : e0 ≠ 0) (hF : loadF L = (zImg, f0)) :
    (hf0 : f0 ≠ 0) → Calls Tryd.prog 3 #[imgV m (.slice A4 m.types.length c4) (.slice A5 m.saved.length c5) (.slice A6 m.seens.length c6), .slice A L.length c] w fun e w' => e = .returned (.bool true) ∧ Below w.heap.size w w' := by
  intro hf0
  have HBG := Lib.hid (show ∀ W : World, Below w.heap.size w W → Calls Tryd.prog 5 #[] W (fun e w' => e = .returned (.bool true) ∧ Below W.heap.size W w') from fun W hW => begun_any W (hG.below hW))
  have HSV := Lib.hid (fun (W : World) (hW : Below w.heap.size w W) => saved_any (hG.below hW) hm (hV.below hW) hl hS hE)
  have HL2 := Lib.hid (fun (W : World) (hW : Below w.heap.size w W) => zloaded_any (hG.below hW) (hA.below hW) hBy hL hF)
  have HZ := Lib.hid (fun (W : World) B4 b4 B5 b5 B6 b6 (h : ImgV W zImg B4 b4 B5 b5 B6 b6) => zimages_any h)
  have f1 : (f0 != 0) = true := by simpa using hf0
  have e1 : (e0 == 0) = false := by simpa using hE0
  clear hG hm hIB hV hl hA hBy hL hS hE hE0 hF hf0
  unfold imgV at *
  go_enter Tryd.func3, Tryd.ntmps3
  go_wp2_with fail
  have hb0 := below_new w (.cells #[.int .i64 m.runs, .int .i64 m.made, .int .i64 m.seq, .int .i64 m.now, .slice A4 m.types.length c4, .slice A5 m.saved.length c5, .slice A6 m.seens.length c6] 28)
  refine (HBG.out _ hb0).mono ?_
  rintro e1 w1 ⟨rfl, hB1⟩
  have hx : IBox _ w.heap.size m (.slice A4 m.types.length c4) (.slice A5 m.saved.length c5) (.slice A6 m.seens.length c6) := blk_new w (.cells #[.int .i64 m.runs, .int .i64 m.made, .int .i64 m.seq, .int .i64 m.now, .slice A4 m.types.length c4, .slice A5 m.saved.length c5, .slice A6 m.seens.length c6] 28)
  have hx1 := blk_below hx hB1
  have HB1 := Lib.hid (below_step hb0 hB1)
  have x0 := (IBox.cells hx1 0).trans rfl
  have x1 := (IBox.cells hx1 1).trans rfl
  have x2 := (IBox.cells hx1 2).trans rfl
  have x3 := (IBox.cells hx1 3).trans rfl
  have x4 := (IBox.cells hx1 4).trans rfl
  have x5 := (IBox.cells hx1 5).trans rfl
  have x6 := (IBox.cells hx1 6).trans rfl
  have HX1 := Lib.hid hx1
  clear hx hx1 hb0 hB1
  go_wp2_with fail
  refine (HSV.out _ HB1.out).mono ?_
  rintro e2 w2 ⟨A7, c7, rfl, hA2, hB2⟩
  have HB2 := Lib.hid (below_step HB1.out hB2)
  have HX2 := Lib.hid (blk_below HX1.out hB2)
  have HA2 := Lib.hid hA2
  clear hB2 hA2 x0 x1 x2 x3 x4 x5 x6
  go_wp2_with fail
  refine (HL2.out _ HB2.out).mono ?_
  rintro e6 w6 ⟨D4, d4, D5, d5, D6, d6, rfl, hV6, hB6⟩
  have hb7 := below_new w6 (.cells #[.int .i64 0, .int .i64 0, .int .i64 0, .int .i64 0, .slice D4 0 d4, .slice D5 0 d5, .slice D6 0 d6] 28)
  have hb := below_step hB6 hb7
  have HB7 := Lib.hid (below_step HB2.out hb)
  have HI7 := Lib.hid (HZ.out _ _ _ _ _ _ _ (hV6.below hb7))
  clear hV6 hB6 hb7 hb
  go_wp2_with fail
  refine HI7.out.mono ?_
  rintro e8 w8 ⟨rfl, hB8⟩
  have HB8 := Lib.hid (below_step HB7.out hB8)
  clear hB8
  go_wp2_with fail
  go_ret
  exact ⟨rfl, HB8.out⟩
end Go.Proofs.YtcfgmkmllcfjjaaDoor
