import Derived.Test.YtcfgmkmllcfjjaaGreatDoorZAS
import Derived.Test.YtcfgmkmllcfjjaaGreatDoorZAC
import Derived.ChangeArms
import Derived.DataReads
import Derived.Lib.LaidTab
import Derived.Test.YtcfgmkmllcfjjaaGreatDoorZAR
import Derived.Test.YtcfgmkmllcfjjaaGreatDoorZAQ
set_option linter.unusedVariables false
set_option linter.unusedSimpArgs false
namespace Go.Proofs.YtcfgmkmllcfjjaaGreatDoor
open Go.RowKit Go.Proofs.YtcfgmkmllcfjjaaGreatDoorW.PrintWords Go.Proofs.YtcfgmkmllcfjjaaGreatDoorW.PrintMore PImageAll
theorem ImgV.below {w w' : World} {m : Img} {A4 A5 A6 : Option Addr} {c4 c5 c6 : Nat} (h : ImgV w m A4 c4 A5 c5 A6 c6) (hB : Below w.heap.size w w') : ImgV w' m A4 c4 A5 c5 A6 c6 :=
  ⟨⟨Kd.C_below h.1.1 hB, h.1.2⟩, ⟨Kd.C_below h.2.1.1 hB, h.2.1.2⟩, ⟨Kd.C_below h.2.2.1 hB, h.2.2.2⟩⟩
theorem LoadPost.read {w w' : World} {r : Img × Int} {e : Ending} (h : LoadPost w r e w') : ∃ A4 c4 A5 c5 A6 c6, e = .returned (.tuple #[imgV r.1 (.slice A4 r.1.types.length c4) (.slice A5 r.1.saved.length c5) (.slice A6 r.1.seens.length c6), .int .i64 r.2]) ∧ ImgV w' r.1 A4 c4 A5 c5 A6 c6 ∧ Below w.heap.size w w' := by
  obtain ⟨v4, v5, v6, rfl, ⟨h4, h5, h6⟩, hB⟩ := h
  obtain ⟨A4, c4, rfl, l4, C4⟩ := Kd.R_reads h4
  obtain ⟨A5, c5, rfl, l5, C5⟩ := Kd.R_reads h5
  obtain ⟨A6, c6, rfl, l6, C6⟩ := Kd.R_reads h6
  exact ⟨A4, c4, A5, c5, A6, c6, rfl, ⟨⟨C4, l4⟩, ⟨C5, l5⟩, ⟨C6, l6⟩⟩, hB⟩
theorem SPost.read {w w' : World} {m : Img} {e : Ending} (h : SPost w m e w') : ∃ A c, e = .returned (.tuple #[.slice A (saveB m).length c, .int .i64 (saveE m)]) ∧ Kd.C (Kd.int .u8) w' A (saveB m).length (saveB m) ∧ (saveB m).length ≤ c ∧ Below w.heap.size w w' := by
  obtain ⟨v, rfl, hr, _, hB⟩ := h
  obtain ⟨A, c, rfl⟩ := own_slice hr
  obtain ⟨h1, h2⟩ := BRow.reads (show BRow w' w.heap.size (.slice A (saveB m).length c) (saveB m) from hr)
  exact ⟨A, c, rfl, h2, h1, hB⟩
theorem IBox.cells {W : World} {b : Nat} {m : Img} {v4 v5 v6 : Value} (h : IBox W b m v4 v5 v6) (i : Nat) : W.cell? ⟨b, i, none⟩ = (#[Value.int .i64 m.runs, .int .i64 m.made, .int .i64 m.seq, .int .i64 m.now, v4, v5, v6] : Array Value)[i]? := blk_cell h i
set_option maxRecDepth 100000 in
set_option maxHeartbeats 8000000 in
theorem begun_any (w : World) (hG : GW w) : Calls Tryz.prog 5 #[] w fun e w' => e = .returned (.bool true) ∧ Below w.heap.size w w' := by
  have HG := Lib.hid hG
  clear hG
  have HSM := Lib.hid (small_any w)
  have HSV := Lib.hid (show ∀ (W : World) A4 c4 A5 c5 A6 c6, Below w.heap.size w W → ImgV W smallM A4 c4 A5 c5 A6 c6 → Calls Tryz.prog 7 #[imgV smallM (.slice A4 smallM.types.length c4) (.slice A5 smallM.saved.length c5) (.slice A6 smallM.seens.length c6)] W (fun e w' => ∃ A c, e = .returned (.tuple #[.slice A smallB.length c, .int .i64 0]) ∧ Kd.C (Kd.int .u8) w' A smallB.length smallB ∧ smallB.length ≤ c ∧ Below W.heap.size W w') from fun W A4 c4 A5 c5 A6 c6 hB hV => by
    refine (Save_any (HG.out.below hB) small_I hV (fun _ => by rw [small_laid]; decide)).mono ?_
    intro e w' h
    have := h.read
    rw [small_saveB, small_saveE] at this
    exact this)
  have HLD := Lib.hid (show ∀ (W : World) A c, Below w.heap.size w W → Kd.C (Kd.int .u8) W A smallB.length smallB → smallB.length ≤ c → Calls Tryz.prog 12 #[.slice A smallB.length c] W (fun e w' => ∃ A4 c4 A5 c5 A6 c6, e = .returned (.tuple #[imgV smallM (.slice A4 smallM.types.length c4) (.slice A5 smallM.saved.length c5) (.slice A6 smallM.seens.length c6), .int .i64 0]) ∧ ImgV w' smallM A4 c4 A5 c5 A6 c6 ∧ Below W.heap.size W w') from fun W A c hB hC hc => by
    refine (Load_any (HG.out.below hB) hC hc small_bytes (by rw [small_len]; decide)).mono ?_
    intro e w' h
    have := h.read
    rw [small_load] at this
    exact this)
  have HSA := Lib.hid (fun W A0 c0 A1 c1 h0 h1 h2 h3 => same_any (w := W) (A0 := A0) (A1 := A1) (c0 := c0) (c1 := c1) (l := smallB) (by rw [small_len]; decide) h0 h1 h2 h3)
  have HIM := Lib.hid (fun W A4 a4 A5 a5 A6 a6 B4 b4 B5 b5 B6 b6 h1 h2 => images_any (w := W) (A4 := A4) (A5 := A5) (A6 := A6) (B4 := B4) (B5 := B5) (B6 := B6) (a4 := a4) (a5 := a5) (a6 := a6) (b4 := b4) (b5 := b5) (b6 := b6) small_B h1 h2)
  unfold imgV at *
  generalize smallM = m at *
  generalize smallB = L at *
  go_enter Tryz.func5, Tryz.ntmps5
  go_wp2_with fail
  refine HSM.out.mono ?_
  rintro e1 w1 ⟨A4, c4, A5, c5, A6, c6, A7, c7, rfl, hV1, ⟨hC1, hc1⟩, hB1⟩
  have hb2 := below_new w1 (.cells #[.int .i64 m.runs, .int .i64 m.made, .int .i64 m.seq, .int .i64 m.now, .slice A4 m.types.length c4, .slice A5 m.saved.length c5, .slice A6 m.seens.length c6] 31)
  have hx2 : IBox _ w1.heap.size m (.slice A4 m.types.length c4) (.slice A5 m.saved.length c5) (.slice A6 m.seens.length c6) := blk_new w1 (.cells #[.int .i64 m.runs, .int .i64 m.made, .int .i64 m.seq, .int .i64 m.now, .slice A4 m.types.length c4, .slice A5 m.saved.length c5, .slice A6 m.seens.length c6] 31)
  have HB2 := Lib.hid (below_step hB1 hb2)
  have HV2 := Lib.hid (hV1.below hb2)
  have HC2 := Lib.hid (Kd.C_below hC1 hb2)
  have HX2 := Lib.hid hx2
  have HC1' := Lib.hid hc1
  clear hV1 hC1 hc1 hB1 hb2 hx2
  go_wp2_with fail
  refine (HSV.out _ _ _ _ _ _ _ HB2.out HV2.out).mono ?_
  rintro e3 w3 ⟨A8, c8, rfl, hC8, hc8, hB3⟩
  have HB3 := Lib.hid (below_step HB2.out hB3)
  have HC3 := Lib.hid (Kd.C_below HC2.out hB3)
  have HV3 := Lib.hid (HV2.out.below hB3)
  have HX3 : Hid (IBox w3 w1.heap.size m (.slice A4 m.types.length c4) (.slice A5 m.saved.length c5) (.slice A6 m.seens.length c6)) := Lib.hid (blk_below HX2.out hB3)
  have HC8 := Lib.hid hC8
  have HC8' := Lib.hid hc8
  clear hC8 hc8 hB3
  go_wp2_with fail
  refine (HLD.out _ _ _ HB3.out HC3.out HC1'.out).mono ?_
  rintro e4 w4 ⟨B4, b4, B5, b5, B6, b6, rfl, hV4, hB4⟩
  have hb5 := below_new w4 (.cells #[.int .i64 m.runs, .int .i64 m.made, .int .i64 m.seq, .int .i64 m.now, .slice B4 m.types.length b4, .slice B5 m.saved.length b5, .slice B6 m.seens.length b6] 31)
  have hx5 : IBox _ w4.heap.size m (.slice B4 m.types.length b4) (.slice B5 m.saved.length b5) (.slice B6 m.seens.length b6) := blk_new w4 (.cells #[.int .i64 m.runs, .int .i64 m.made, .int .i64 m.seq, .int .i64 m.now, .slice B4 m.types.length b4, .slice B5 m.saved.length b5, .slice B6 m.seens.length b6] 31)
  have hb35 := below_step hB4 hb5
  have HB5 := Lib.hid (below_step HB3.out hb35)
  have HC5 := Lib.hid (Kd.C_below HC3.out hb35)
  have HD5 := Lib.hid (Kd.C_below HC8.out hb35)
  have HV5 := Lib.hid (HV3.out.below hb35)
  have HU5 := Lib.hid (hV4.below hb5)
  have hx3 := blk_below HX3.out hb35
  have HX5 := Lib.hid hx5
  have HY5 := Lib.hid hx3
  clear hV4 hB4 hb5 hb35 hx5 hx3
  go_wp2_with fail
  refine (HSA.out _ _ _ _ _ HC5.out HC1'.out HD5.out HC8'.out).mono ?_
  rintro e6 w6 ⟨rfl, ⟨n6, rfl⟩⟩
  have y0 := (IBox.cells HY5.out 0).trans rfl
  have y1 := (IBox.cells HY5.out 1).trans rfl
  have y2 := (IBox.cells HY5.out 2).trans rfl
  have y3 := (IBox.cells HY5.out 3).trans rfl
  have y4 := (IBox.cells HY5.out 4).trans rfl
  have y5 := (IBox.cells HY5.out 5).trans rfl
  have y6 := (IBox.cells HY5.out 6).trans rfl
  have hb6 := pw_below_drewN (Below.refl (w4.alloc (.cells #[.int .i64 m.runs, .int .i64 m.made, .int .i64 m.seq, .int .i64 m.now, .slice B4 m.types.length b4, .slice B5 m.saved.length b5, .slice B6 m.seens.length b6] 31)).heap.size (w4.alloc (.cells #[.int .i64 m.runs, .int .i64 m.made, .int .i64 m.seq, .int .i64 m.now, .slice B4 m.types.length b4, .slice B5 m.saved.length b5, .slice B6 m.seens.length b6] 31))) n6
  have HI6 := Lib.hid (HIM.out _ _ _ _ _ _ _ _ _ _ _ _ _ (HV5.out.below hb6) (HU5.out.below hb6))
  have HB6 := Lib.hid (below_step HB5.out hb6)
  clear hb6
  go_wp2_with fail
  refine HI6.out.mono ?_
  rintro e7 w7 ⟨rfl, hB7⟩
  go_wp2_with fail
  go_ret
  exact ⟨rfl, below_step HB6.out hB7⟩
def BytesAt (W : World) (A : Option Addr) (c : Nat) (L : List Int) : Prop := Kd.C (Kd.int .u8) W A L.length L ∧ L.length ≤ c
theorem BytesAt.below {w w' : World} {A : Option Addr} {c : Nat} {L : List Int} (h : BytesAt w A c L) (hB : Below w.heap.size w w') : BytesAt w' A c L := ⟨Kd.C_below h.1 hB, h.2⟩
theorem zero_B : ImgB zImg := by
  refine imgB_of ?_ ?_ ?_ ?_ ?_
  · show 0 ≤ _; omega
  · show 0 ≤ _; omega
  · show 0 ≤ _; omega
  · intro x hx; exact absurd hx (by show x ∉ ([] : List S56); simp)
  · intro x hx; exact absurd hx (by show x ∉ ([] : List S65); simp)
theorem load_I {L : List Int} {n : Img} (hB : Bytes L) (h : loadF L = (n, 0)) : ImgI n ∧ n.seens.length ≤ 100000000 := by
  unfold loadF at h
  by_cases h1 : 67108864 < L.length
  · rw [if_pos h1] at h
    exact absurd (congrArg Prod.snd h) (show (2 : Int) ≠ 0 by decide)
  · rw [if_neg h1] at h
    by_cases h2 : L.length < 8
    · rw [if_pos h2] at h
      exact absurd (congrArg Prod.snd h) (show (30 : Int) ≠ 0 by decide)
    · rw [if_neg h2] at h
      by_cases h3 : sumB (L.take (L.length - 4)) = L.drop (L.length - 4)
      · rw [if_pos h3] at h
        by_cases h4 : (loadM L).1.2 = true ∨ 0 < (loadM L).1.1.length
        · rw [if_pos h4] at h
          exact absurd (congrArg Prod.snd h) (show (220 : Int) ≠ 0 by decide)
        · rw [if_neg h4] at h
          by_cases h5 : saveE (loadM L).2 = 0 ∧ saveB (loadM L).2 = L
          · rw [if_pos h5] at h
            have hR : Rok (L.take (L.length - 4), false) := ⟨fun b hb => hB b (List.mem_of_mem_take hb), by show (L.take (L.length - 4)).length ≤ _; rw [List.length_take]; omega⟩
            have ht : (L.take (L.length - 4)).length ≤ 67108864 := by rw [List.length_take]; omega
            obtain ⟨i1, i2⟩ := tail_I64 (B := 67108864) hR ht (by decide)
            have hn : (loadM L).2 = n := congrArg Prod.fst h
            unfold loadM at hn
            rw [hn] at i1 i2
            refine ⟨i1, ?_⟩
            have i3 : n.seens.length ≤ (L.take (L.length - 4)).length + 1 := i2
            omega
          · rw [if_neg h5] at h
            exact absurd (congrArg Prod.snd h) (show (220 : Int) ≠ 0 by decide)
      · rw [if_neg h3] at h
        exact absurd (congrArg Prod.snd h) (show (32 : Int) ≠ 0 by decide)
theorem saved_any {W : World} {m : Img} {A4 A5 A6 : Option Addr} {c4 c5 c6 : Nat} {S : List Int} {e0 : Int} (hG : GW W) (hm : ImgI m) (hV : ImgV W m A4 c4 A5 c5 A6 c6) (hl : m.seens.length ≤ 100000000) (hS : saveB m = S) (hE : saveE m = e0) :
    Calls Tryz.prog 7 #[imgV m (.slice A4 m.types.length c4) (.slice A5 m.saved.length c5) (.slice A6 m.seens.length c6)] W (fun e w' => ∃ A c, e = .returned (.tuple #[.slice A S.length c, .int .i64 e0]) ∧ BytesAt w' A c S ∧ Below W.heap.size W w') := by
  subst hS hE
  refine (Save_any hG hm hV (fun h => laid_len hm hl h)).mono ?_
  intro e w' h
  obtain ⟨A, c, h1, h2, h3, h4⟩ := h.read
  exact ⟨A, c, h1, ⟨h2, h3⟩, h4⟩
theorem loaded_any {W : World} {A : Option Addr} {c : Nat} {L : List Int} {n : Img} {f : Int} (hG : GW W) (hA : BytesAt W A c L) (hB : Bytes L) (hL : L.length ≤ 67108864) (h : loadF L = (n, f)) :
    Calls Tryz.prog 12 #[.slice A L.length c] W (fun e w' => ∃ A4 c4 A5 c5 A6 c6, e = .returned (.tuple #[imgV n (.slice A4 n.types.length c4) (.slice A5 n.saved.length c5) (.slice A6 n.seens.length c6), .int .i64 f]) ∧ ImgV w' n A4 c4 A5 c5 A6 c6 ∧ Below W.heap.size W w') := by
  refine (Load_any hG hA.1 hA.2 hB (by omega)).mono ?_
  intro e w' h1
  have := h1.read
  rw [h] at this
  exact this
end Go.Proofs.YtcfgmkmllcfjjaaGreatDoor
set_option linter.unusedVariables false
set_option linter.unusedSimpArgs false
namespace Go.Proofs.YtcfgmkmllcfjjaaGreatDoor
open Go.RowKit Go.Proofs.YtcfgmkmllcfjjaaGreatDoorW.PrintWords PImageAll
section
variable {H : Type} {enc : TypeId × Value → H} {w : World} {base : Nat} {spare : Nat → Bool} {held : Bool} {B : Nat}
theorem add_add' (a : Addr) (m i : Nat) : (a.add m).add i = a.add (m + i) := by
  unfold Addr.add
  by_cases hi : i = 0
  · subst hi; simp
  · by_cases hm : m = 0
    · subst hm; simp [hi]
    · rw [if_neg hi, if_neg hm, if_neg (by omega)]
      simp [Nat.add_assoc]
theorem slice_open {α : Type} {d : Kd α} {S : α → Prop} {t e : TypeId} {fuel : Nat} {cs : List Value} {x : DataW H × List MemPlace} (ht : Tryz.prog.underlying t = some (.slice e)) (hsz : Tryz.prog.cellsOf e = d.sz) (hB : Rows.uptoBulk x.1 ≤ B) (hBm : B ≤ 1048576)
    (h : DataW.trod enc Tryz.prog w base spare held fuel t cs = some x) (he : ∀ n cs' (y : DataW H × List MemPlace), Rows.uptoBulk y.1 ≤ B → DataW.trod enc Tryz.prog w base spare held n e cs' = some y → ∃ v, d.K w v cs' ∧ S v) :
    ∃ (A : Option Addr) (xs : List α) (cap : Nat), cs = [.slice A xs.length cap] ∧ xs.length ≤ cap ∧ xs.length ≤ 1048576 ∧ d.C w A xs.length xs ∧ ∀ x ∈ xs, S x := by
  rcases DataW.trod_slice ht h with ⟨rfl, _⟩ | ⟨a, len, cap, elems, rest, n, rfl, rfl, hx, hb, hl, hm, hlen, hel, _, _⟩
  · exact ⟨none, [], 0, rfl, Nat.le_refl _, Nat.zero_le _, Kd.C_nil _ _, by simp⟩
  · have hx1 : x.1 = .slice (elems.map (·.1)) (rest.map (·.1)) := congrArg Prod.fst hx
    rw [hx1] at hB
    have hall := bulks.slice_elems (elems.map (·.1)) (rest.map (·.1))
    have hlen2 := bulks.length_le (elems.map (·.1))
    rw [List.length_map] at hlen2
    have hch : ∀ i : Fin len, ∃ v, (∃ cs', (w.cells? base (a.add (i.1 * d.sz)) d.sz) = some cs' ∧ d.K w v cs') ∧ S v := by
      intro i
      have h1 := hel i.1 i.2
      rw [hsz] at h1
      rw [List.getElem?_eq_getElem (by omega)] at h1
      obtain ⟨cs', h2, h3⟩ := Option.bind_eq_some_iff.1 h1
      have h6 := bulks.part_le (l := elems.map (·.1)) (List.mem_map.2 ⟨elems[i.1]'(by omega), List.getElem_mem _, rfl⟩)
      obtain ⟨v, h4, h5⟩ := he n cs' _ (by omega) h3
      exact ⟨v, ⟨cs', h2, h4⟩, h5⟩
    obtain ⟨F, hF⟩ := Classical.axiomOfChoice hch
    have hll : (List.ofFn F).length = len := List.length_ofFn
    refine ⟨some a, List.ofFn F, cap, by rw [hll], by omega, by omega, ⟨rfl, by rw [hll]; omega, fun _ => ⟨a, rfl, fun j p hj => ?_⟩⟩, ?_⟩
    · obtain ⟨hjl, hjp⟩ := List.getElem?_eq_some_iff.1 hj
      rw [hll] at hjl
      rw [List.getElem_ofFn] at hjp
      subst hjp
      obtain ⟨⟨cs', h2, h4⟩, _⟩ := hF ⟨j, hjl⟩
      refine ⟨cs', d.K_len h4, h4, fun i u hu => ?_⟩
      obtain ⟨_, h6, h7⟩ := World.cells?_some h2
      have hil := (List.getElem?_eq_some_iff.1 hu).1
      rw [← hu, ← h7 i (by omega), add_add']
    · intro x hx
      obtain ⟨i, rfl⟩ := List.mem_ofFn.1 hx
      exact (hF i).2
theorem c2 : Tryz.prog.cellsOf 2 = 1 := by kernel_rfl
theorem c3 : Tryz.prog.cellsOf 3 = 1 := by kernel_rfl
theorem c4 : Tryz.prog.cellsOf 4 = 1 := by kernel_rfl
theorem c5 : Tryz.prog.cellsOf 5 = 1 := by kernel_rfl
theorem c9 : Tryz.prog.cellsOf 9 = 1 := by kernel_rfl
theorem c26 : Tryz.prog.cellsOf 26 = 2 := by kernel_rfl
theorem c27 : Tryz.prog.cellsOf 27 = 1 := by kernel_rfl
theorem c28 : Tryz.prog.cellsOf 28 = 1 := by kernel_rfl
theorem c29 : Tryz.prog.cellsOf 29 = 1 := by kernel_rfl
theorem c31 : Tryz.prog.cellsOf 31 = 7 := by kernel_rfl
theorem c60 : Tryz.prog.cellsOf 60 = 4 := by kernel_rfl
theorem c58 : Tryz.prog.cellsOf 58 = 2 := by kernel_rfl
theorem c54 : Tryz.prog.cellsOf 54 = 1 := by kernel_rfl
theorem c56 : Tryz.prog.cellsOf 56 = 2 := by kernel_rfl
theorem c67 : Tryz.prog.cellsOf 67 = 4 := by kernel_rfl
theorem c61 : Tryz.prog.cellsOf 61 = 1 := by kernel_rfl
theorem c63 : Tryz.prog.cellsOf 63 = 3 := by kernel_rfl
theorem c65 : Tryz.prog.cellsOf 65 = 5 := by kernel_rfl
theorem field_open {fs : Array Field} {xs : List (DataW H × List MemPlace)} {n : Nat} {cs : List Value} (hl : xs.length = fs.size) (hB : Rows.uptoBulk (.agg (xs.map (·.1))) ≤ B)
    (hf : ∀ (i : Nat) (f : Field), fs[i]? = some f → DataW.trod enc Tryz.prog w base spare held n f.type ((cs.drop f.offset).take (Tryz.prog.cellsOf f.type)) = xs[i]?) (i : Nat) (f : Field) (h : fs[i]? = some f) :
    ∃ y, DataW.trod enc Tryz.prog w base spare held n f.type ((cs.drop f.offset).take (Tryz.prog.cellsOf f.type)) = some y ∧ Rows.uptoBulk y.1 ≤ B := by
  have hi : i < fs.size := (Array.getElem?_eq_some_iff.1 h).1
  refine ⟨xs[i]'(by omega), by rw [hf i f h]; exact List.getElem?_eq_getElem (by omega), ?_⟩
  have h6 := bulks.part_le (l := xs.map (·.1)) (List.mem_map.2 ⟨xs[i]'(by omega), List.getElem_mem _, rfl⟩)
  simp only [Rows.uptoBulk] at hB
  omega
theorem int_I64 {n : Int} (h : (Lit.int .i64 n).wf = true) : I64 n := by
  simp only [Lit.wf, Bool.and_eq_true, decide_eq_true_eq] at h
  exact ⟨h.1, h.2⟩
theorem u8_byte {n : Int} (h : (Lit.int .u8 n).wf = true) : 0 ≤ n ∧ n < 256 := by
  simp only [Lit.wf, Bool.and_eq_true, decide_eq_true_eq] at h
  have h2 : n ≤ 255 := h.2
  exact ⟨h.1, by omega⟩
theorem attr_open {fuel : Nat} {cs : List Value} {x : DataW H × List MemPlace} (hB : Rows.uptoBulk x.1 ≤ B) (h : DataW.trod enc Tryz.prog w base spare held fuel 58 cs = some x) : ∃ v : S58, k58.K w v cs ∧ True := by
  obtain ⟨xs, n, rfl, hx, hlen, hl, hf⟩ := DataW.trod_struct Tryz.underlying58 h
  rw [c58] at hlen
  rw [hx] at hB
  obtain ⟨y0, g0, _⟩ := field_open hl hB hf 0 _ rfl
  obtain ⟨y1, g1, _⟩ := field_open hl hB hf 1 _ rfl
  rcases cs with _ | ⟨a0, _ | ⟨a1, _ | ⟨a2, t⟩⟩⟩ <;> simp at hlen
  obtain ⟨s0, e0, _⟩ := DataW.trod_string Tryz.underlying9 g0
  obtain ⟨n1, e1, _⟩ := DataW.trod_int Tryz.underlying3 g1
  simp [c3, c9] at e0 e1
  subst e0; subst e1
  exact ⟨⟨s0, n1⟩, k58_mk w ⟨s0, n1⟩, trivial⟩
theorem type_open (hBm : B ≤ 1048576) {fuel : Nat} {cs : List Value} {x : DataW H × List MemPlace} (hB : Rows.uptoBulk x.1 ≤ B) (h : DataW.trod enc Tryz.prog w base spare held fuel 56 cs = some x) : ∃ v : S56, k56.K w v cs ∧ v.f1.length ≤ 1048576 := by
  obtain ⟨xs, n, rfl, hx, hlen, hl, hf⟩ := DataW.trod_struct Tryz.underlying56 h
  rw [c56] at hlen
  rw [hx] at hB
  obtain ⟨y0, g0, _⟩ := field_open hl hB hf 0 _ rfl
  obtain ⟨y1, g1, b1⟩ := field_open hl hB hf 1 _ rfl
  rcases cs with _ | ⟨a0, _ | ⟨a1, _ | ⟨a2, t⟩⟩⟩ <;> simp at hlen
  obtain ⟨s0, e0, _⟩ := DataW.trod_string Tryz.underlying9 g0
  obtain ⟨A, ys, cap, e1, hc, hs, hC, _⟩ := slice_open (d := k58) (S := fun _ => True) Tryz.underlying54 c58 b1 hBm g1 (fun m cs' y hb hy => attr_open hb hy)
  simp [c9, c54] at e0 e1
  subst e0; subst e1
  exact ⟨⟨s0, ys⟩, k56_mk w ⟨s0, ys⟩ hc hC, hs⟩
theorem saved_open {fuel : Nat} {cs : List Value} {x : DataW H × List MemPlace} (hB : Rows.uptoBulk x.1 ≤ B) (h : DataW.trod enc Tryz.prog w base spare held fuel 60 cs = some x) : ∃ v : S60, k60.K w v cs ∧ I64 v.f2 := by
  obtain ⟨xs, n, rfl, hx, hlen, hl, hf⟩ := DataW.trod_struct Tryz.underlying60 h
  rw [c60] at hlen
  rw [hx] at hB
  obtain ⟨y0, g0, _⟩ := field_open hl hB hf 0 _ rfl
  obtain ⟨y1, g1, _⟩ := field_open hl hB hf 1 _ rfl
  obtain ⟨y2, g2, _⟩ := field_open hl hB hf 2 _ rfl
  obtain ⟨y3, g3, _⟩ := field_open hl hB hf 3 _ rfl
  rcases cs with _ | ⟨a0, _ | ⟨a1, _ | ⟨a2, _ | ⟨a3, _ | ⟨a4, t⟩⟩⟩⟩⟩ <;> simp at hlen
  obtain ⟨s0, e0, _⟩ := DataW.trod_string Tryz.underlying9 g0
  obtain ⟨s1, e1, _⟩ := DataW.trod_string Tryz.underlying9 g1
  obtain ⟨n2, e2, _, w2⟩ := DataW.trod_int Tryz.underlying2 g2
  obtain ⟨b3, e3, _⟩ := DataW.trod_bool Tryz.underlying4 g3
  simp [c2, c9, c4] at e0 e1 e2 e3
  subst e0; subst e1; subst e2; subst e3
  exact ⟨⟨s0, s1, n2, b3⟩, k60_mk w ⟨s0, s1, n2, b3⟩, int_I64 w2⟩
theorem val_open {fuel : Nat} {cs : List Value} {x : DataW H × List MemPlace} (hB : Rows.uptoBulk x.1 ≤ B) (h : DataW.trod enc Tryz.prog w base spare held fuel 67 cs = some x) : ∃ v : S67, k67.K w v cs ∧ I64 v.f1 := by
  obtain ⟨xs, n, rfl, hx, hlen, hl, hf⟩ := DataW.trod_struct Tryz.underlying67 h
  rw [c67] at hlen
  rw [hx] at hB
  obtain ⟨y0, g0, _⟩ := field_open hl hB hf 0 _ rfl
  obtain ⟨y1, g1, _⟩ := field_open hl hB hf 1 _ rfl
  obtain ⟨y2, g2, _⟩ := field_open hl hB hf 2 _ rfl
  obtain ⟨y3, g3, _⟩ := field_open hl hB hf 3 _ rfl
  rcases cs with _ | ⟨a0, _ | ⟨a1, _ | ⟨a2, _ | ⟨a3, _ | ⟨a4, t⟩⟩⟩⟩⟩ <;> simp at hlen
  obtain ⟨n0, e0, _⟩ := DataW.trod_int Tryz.underlying3 g0
  obtain ⟨n1, e1, _, w1⟩ := DataW.trod_int Tryz.underlying2 g1
  obtain ⟨s2, e2, _⟩ := DataW.trod_string Tryz.underlying9 g2
  obtain ⟨b3, e3, _⟩ := DataW.trod_bool Tryz.underlying4 g3
  simp [c2, c3, c9, c4] at e0 e1 e2 e3
  subst e0; subst e1; subst e2; subst e3
  exact ⟨⟨n0, n1, s2, b3⟩, k67_mk w ⟨n0, n1, s2, b3⟩, int_I64 w1⟩
theorem event_open (hBm : B ≤ 1048576) {fuel : Nat} {cs : List Value} {x : DataW H × List MemPlace} (hB : Rows.uptoBulk x.1 ≤ B) (h : DataW.trod enc Tryz.prog w base spare held fuel 63 cs = some x) :
    ∃ (s0 : ByteArray) (n1 : Int) (ys : List S67) (A : Option Addr) (c : Nat), cs = [.string s0, .int .i64 n1, .slice A ys.length c] ∧ ys.length ≤ c ∧ k67.C w A ys.length ys ∧ ys.length ≤ 1048576 ∧ ∀ y ∈ ys, I64 y.f1 := by
  obtain ⟨xs, n, rfl, hx, hlen, hl, hf⟩ := DataW.trod_struct Tryz.underlying63 h
  rw [c63] at hlen
  rw [hx] at hB
  obtain ⟨y0, g0, _⟩ := field_open hl hB hf 0 _ rfl
  obtain ⟨y1, g1, _⟩ := field_open hl hB hf 1 _ rfl
  obtain ⟨y2, g2, b2⟩ := field_open hl hB hf 2 _ rfl
  rcases cs with _ | ⟨a0, _ | ⟨a1, _ | ⟨a2, _ | ⟨a3, t⟩⟩⟩⟩ <;> simp at hlen
  obtain ⟨s0, e0, _⟩ := DataW.trod_string Tryz.underlying9 g0
  obtain ⟨n1, e1, _⟩ := DataW.trod_int Tryz.underlying2 g1
  obtain ⟨A, ys, cap, e2, hc, hs, hC, hS⟩ := slice_open (d := k67) (S := fun v => I64 v.f1) Tryz.underlying61 c67 b2 hBm g2 (fun m cs' y hb hy => val_open hb hy)
  simp [c2, c9, c61] at e0 e1 e2
  subst e0; subst e1; subst e2
  exact ⟨s0, n1, ys, A, cap, rfl, hc, hC, hs, hS⟩
theorem seen_open (hBm : B ≤ 1048576) {fuel : Nat} {cs : List Value} {x : DataW H × List MemPlace} (hB : Rows.uptoBulk x.1 ≤ B) (h : DataW.trod enc Tryz.prog w base spare held fuel 65 cs = some x) : ∃ v : S65, k65.K w v cs ∧ v.f1.f2.length ≤ 1048576 ∧ ∀ y ∈ v.f1.f2, I64 y.f1 := by
  obtain ⟨xs, n, rfl, hx, hlen, hl, hf⟩ := DataW.trod_struct Tryz.underlying65 h
  rw [c65] at hlen
  rw [hx] at hB
  obtain ⟨y0, g0, _⟩ := field_open hl hB hf 0 _ rfl
  obtain ⟨y1, g1, b1⟩ := field_open hl hB hf 1 _ rfl
  obtain ⟨y2, g2, _⟩ := field_open hl hB hf 2 _ rfl
  rcases cs with _ | ⟨a0, _ | ⟨a1, _ | ⟨a2, _ | ⟨a3, _ | ⟨a4, _ | ⟨a5, t⟩⟩⟩⟩⟩⟩ <;> simp at hlen
  obtain ⟨n0, e0, _⟩ := DataW.trod_int Tryz.underlying2 g0
  obtain ⟨s0, n1, ys, A, c, e1, hc, hC, hs, hS⟩ := event_open hBm b1 g1
  obtain ⟨b2', e2, _⟩ := DataW.trod_bool Tryz.underlying4 g2
  simp [c2, c63, c4] at e0 e1 e2
  obtain ⟨rfl, rfl, rfl⟩ := e1
  subst e0; subst e2
  exact ⟨⟨n0, ⟨s0, n1, ys⟩, b2'⟩, k65_mk w ⟨n0, ⟨s0, n1, ys⟩, b2'⟩ hc hC, hs, hS⟩
theorem opts_open {fuel : Nat} {cs : List Value} {x : DataW H × List MemPlace} (hB : Rows.uptoBulk x.1 ≤ B) (h : DataW.trod enc Tryz.prog w base spare held fuel 26 cs = some x) : ∃ n0 n1, cs = [.int .i64 n0, .int .i64 n1] ∧ I64 n0 ∧ I64 n1 := by
  obtain ⟨xs, n, rfl, hx, hlen, hl, hf⟩ := DataW.trod_struct Tryz.underlying26 h
  rw [c26] at hlen
  rw [hx] at hB
  obtain ⟨y0, g0, _⟩ := field_open hl hB hf 0 _ rfl
  obtain ⟨y1, g1, _⟩ := field_open hl hB hf 1 _ rfl
  rcases cs with _ | ⟨a0, _ | ⟨a1, _ | ⟨a2, t⟩⟩⟩ <;> simp at hlen
  obtain ⟨n0, e0, _, w0⟩ := DataW.trod_int Tryz.underlying3 g0
  obtain ⟨n1, e1, _, w1⟩ := DataW.trod_int Tryz.underlying3 g1
  simp [c3] at e0 e1
  subst e0; subst e1
  exact ⟨n0, n1, rfl, int_I64 w0, int_I64 w1⟩
theorem bytes_open {fuel : Nat} {cs : List Value} {x : DataW H × List MemPlace} (hB : Rows.uptoBulk x.1 ≤ 1048576) (h : DataW.trod enc Tryz.prog w base spare held fuel 33 cs = some x) :
    ∃ (L : List Int) (A : Option Addr) (c : Nat), cs = [.slice A L.length c] ∧ BytesAt w A c L ∧ Bytes L ∧ L.length ≤ 1048576 := by
  obtain ⟨A, L, c, e, hc, hl, hC, hS⟩ := slice_open (d := Kd.int .u8) (S := fun v => 0 ≤ v ∧ v < 256) Tryz.underlying33 c5 hB (Nat.le_refl _) h (fun m cs' y hb hy => by
    obtain ⟨n, e, _, hw⟩ := DataW.trod_int Tryz.underlying5 hy
    exact ⟨n, e, u8_byte hw⟩)
  exact ⟨L, A, c, e, ⟨hC, hc⟩, hS, hl⟩
end
theorem cells_of_strs {H : Type} {enc : TypeId × Value → H} {P : Program} {w : World} {base : Nat} {sp : Nat → Bool} {held : Bool} {fuel : Nat} {t e : TypeId} {n : Nat} {cs : List Value} {zs : List (List UInt8)} {p : List MemPlace}
    (ht : P.underlying t = some (.array n e)) (he : P.underlying e = some .string) (hce : P.cellsOf e = 1) (hct : P.cellsOf t = n)
    (h : DataW.trod enc P w base sp held fuel t cs = some (.agg (zs.map fun z => .lit (.string z)), p)) : cs = zs.map fun z => Value.string ⟨z.toArray⟩ := by
  cases fuel with
  | zero => simp [DataW.trod] at h
  | succ fuel =>
    simp only [DataW.trod, ht, hce, hct, Nat.mul_one] at h
    split at h
    · rename_i hl
      obtain ⟨xs, hm, hx⟩ := Option.map_eq_some_iff.1 h
      have hxs : xs.map (·.1) = zs.map fun z => (DataW.lit (.string z) : DataW H) := by
        have := congrArg Prod.fst hx
        simpa using this
      have hxl : xs.length = n := by simpa using Lib.mapM_length hm
      have hzl : zs.length = n := by
        have := congrArg List.length hxs
        simp at this
        omega
      apply List.ext_getElem?
      intro i
      by_cases hi : i < n
      · obtain ⟨b, hb, hf⟩ := Lib.mapM_at hm i i (by simp [hi])
        obtain ⟨z, hc, rfl, _⟩ := DataW.trod_string he hf
        have h1 : cs[i]? = some (.string z) := by
          have := congrArg (·[0]?) hc
          simpa [List.getElem?_take, List.getElem?_drop] using this
        have h2 : (xs.map (·.1))[i]? = some (DataW.lit (.string z.data.toList) : DataW H) := by simp [hb]
        rw [hxs] at h2
        simp only [List.getElem?_map, Option.map_eq_some_iff, DataW.lit.injEq, Lit.string.injEq] at h2
        obtain ⟨z', hz', rfl⟩ := h2
        simp [h1, hz']
      · rw [List.getElem?_eq_none (by omega), List.getElem?_eq_none (by simp; omega)]
    · cases h
theorem gWords : Tryz.prog.globalNamed "refrain/schema.words" = some 0 := by kernel_rfl
theorem gWordsType : (Tryz.prog.globals[0]?).map (·.type) = some 111 := by kernel_rfl
theorem c111 : Tryz.prog.cellsOf 111 = 16 := by kernel_rfl
def wordsZ : List (List UInt8) := [[80, 65, 84, 84, 69, 82, 78], [83, 69, 81], [80, 65, 82, 84, 73, 84, 73, 79, 78], [66, 89], [87, 72, 69, 82, 69], [87, 73, 84, 72, 73, 78], [82, 69, 84, 85, 82, 78], [65, 78, 68], [79, 82], [78, 79, 84], [84, 82, 85, 69], [70, 65, 76, 83, 69], [84, 89, 80, 69], [73, 78, 84], [83, 84, 82], [66, 79, 79, 76]]
theorem words_laid {W : World} (h : laidMetH Tryz.prog Rows.imageAllRow.laid W) : GW W := by
  have h2 : laidMet Tryz.prog Rows.imageAllRow.laid W := h
  obtain ⟨ps, ⟨g', t', cs, fuel, p, q, hg', ht', hvar, hd, _, _⟩, _⟩ := h2
  obtain rfl := Option.some.inj (gWords.symm.trans hg')
  obtain rfl := Option.some.inj (gWordsType.symm.trans ht')
  have hcs := cells_of_strs (zs := wordsZ) Tryz.underlying111 Tryz.underlying9 c9 c111 hd
  unfold World.var? at hvar
  rw [gWords] at hvar
  simp only [Option.bind_some] at hvar
  cases hh : W.heap[0]? with
  | none => rw [hh] at hvar; cases hvar
  | some o =>
    rw [hh] at hvar
    cases o with
    | cells c t fr =>
      simp only [Option.some.injEq] at hvar
      have hw : c = wordsV := by
        rw [hvar]
        exact Array.ext' hcs
      exact ⟨t, fr, by rw [← hw]; exact hh⟩
    | _ => cases hvar
end Go.Proofs.YtcfgmkmllcfjjaaGreatDoor
set_option linter.unusedVariables false
set_option linter.unusedSimpArgs false
namespace Go.Proofs.YtcfgmkmllcfjjaaGreatDoor
open Go.RowKit Go.Proofs.YtcfgmkmllcfjjaaGreatDoorW.PrintWords Go.Proofs.YtcfgmkmllcfjjaaGreatDoorW.PrintMore PImageAll
structure ImgL (m : Img) : Prop where
  t : m.types.length ≤ 1000000000000
  q : m.saved.length ≤ 1000000000000
  s : m.seens.length ≤ 1000000000000
  a : ∀ x ∈ m.types, x.f1.length ≤ 1000000000000
  v : ∀ x ∈ m.seens, x.f1.f2.length ≤ 1000000000000
structure TF (w : World) (m : Img) (v4 v5 v6 : Value) (W : World) : Prop where
  B : Below w.heap.size w W
  box : IBox W w.heap.size m v4 v5 v6
  out : IBox W (w.heap.size + 1) zImg (.slice none 0 0) (.slice none 0 0) (.slice none 0 0)
theorem keep_set (W : World) (g i : Nat) (v : Value) : KeepBut W (W.setCell ⟨g, i, none⟩ v) g none := (KeepBut.refl W g none).set_ i v
theorem TF.far {w W W' : World} {m : Img} {v4 v5 v6 : Value} (h : TF w m v4 v5 v6 W) {g e : Nat} {cs : List Value} (hc : Cl W g e cs) (he : e ≠ 31) (hg : w.heap.size ≤ g) (hk : KeepBut W W' g none) (hB : Below w.heap.size w W') : TF w m v4 v5 v6 W' :=
  ⟨hB, KeepBut.blk hk h.box (fun h1 => blk_ne h.box hc (fun h => he h.symm) h1) (by simp), KeepBut.blk hk h.out (fun h1 => blk_ne h.out hc (fun h => he h.symm) h1) (by simp)⟩
theorem TF.below {w W W' : World} {m : Img} {v4 v5 v6 : Value} (h : TF w m v4 v5 v6 W) (hB : Below W.heap.size W W') : TF w m v4 v5 v6 W' :=
  ⟨below_step h.B hB, blk_below h.box hB, blk_below h.out hB⟩
theorem TyRow.start (w W : World) (hB : w.heap.size ≤ W.heap.size) (xs : List S56) : TyRow w.heap.size (W.alloc (.cells (madeCells zT.toArray ((xs.length + 6) * zT.length)) 56)) W.heap.size xs 0 :=
  ⟨hB, [], Reps.none _ _, by have := made_cl W zT (xs.length + 6) 56; simpa using this⟩
theorem SnRow.start (w W : World) (hB : w.heap.size ≤ W.heap.size) (xs : List S65) : SnRow w.heap.size (W.alloc (.cells (madeCells zS.toArray ((xs.length + 6) * zS.length)) 65)) W.heap.size xs 0 :=
  ⟨hB, [], Reps.none _ _, by have := made_cl W zS (xs.length + 6) 65; simpa using this⟩
theorem SvRow.start (w W : World) (hB : w.heap.size ≤ W.heap.size) (xs : List S60) : SvRow w.heap.size (W.alloc (.cells (madeCells zQ.toArray ((xs.length + 6) * zQ.length)) 60)) W.heap.size xs 0 :=
  ⟨hB, by have := made_cl W zQ (xs.length + 6) 60; simpa using this⟩
theorem AtRow.start (W : World) (xs : List S58) : AtRow (W.alloc (.cells (madeCells zA.toArray ((xs.length + 6) * zA.length)) 58)) W.heap.size xs 0 := by have := made_cl W zA (xs.length + 6) 58; simpa [AtRow] using this
theorem VaRow.start (W : World) (xs : List S67) : VaRow (W.alloc (.cells (madeCells zV.toArray ((xs.length + 6) * zV.length)) 67)) W.heap.size xs 0 := by have := made_cl W zV (xs.length + 6) 67; simpa [VaRow] using this
theorem AtRow.open_ {W : World} {g : Nat} {xs : List S58} {i : Nat} (h : AtRow W g xs i) (hi : i < xs.length + 6) :
    ∃ a r, a.length = i * 2 ∧ Cl W g 58 (a ++ .string ⟨#[]⟩ :: .int .i64 0 :: r) ∧ (∀ (hx : i < xs.length) W', Cl W' g 58 (a ++ .string xs[i].f0 :: .int .i64 xs[i].f1 :: r) → AtRow W' g xs (i + 1)) ∧ (xs.length ≤ i → ∀ W', Cl W' g 58 (a ++ .string mk4 :: .int .i64 77 :: r) → AtRow W' g xs (i + 1)) := by
  have hN : (xs ++ List.replicate 6 mkA).length = xs.length + 6 := by simp
  have hz : 0 < zA.length := by decide
  have key : ∀ W', Cl W' g 58 (((xs ++ List.replicate 6 mkA).take i).flatMap atC ++ (atC ((xs ++ List.replicate 6 mkA)[i]'(by omega)) ++ zr zA (xs.length + 6 - (i + 1)))) → AtRow W' g xs (i + 1) := by
    intro W' h'
    rw [row_on atC (by omega) _] at h'
    exact h'
  refine ⟨((xs ++ List.replicate 6 mkA).take i).flatMap atC, zr zA (xs.length + 6 - (i + 1)), ?_, ?_, fun hx W' h' => ?_, fun hx W' h' => ?_⟩
  · rw [flatC_len atC 2 (fun _ => rfl), List.length_take]; omega
  · have h := (show Cl W g 58 _ from h)
    rw [row_at atC zA hz hN hi] at h
    exact h
  · refine key W' ?_
    rw [List.getElem_append_left hx]
    exact h'
  · refine key W' ?_
    rw [List.getElem_append_right hx, List.getElem_replicate]
    exact h'
theorem VaRow.open_ {W : World} {g : Nat} {xs : List S67} {i : Nat} (h : VaRow W g xs i) (hi : i < xs.length + 6) :
    ∃ a r, a.length = i * 4 ∧ Cl W g 67 (a ++ .int .i64 0 :: .int .i64 0 :: .string ⟨#[]⟩ :: .bool false :: r) ∧ (∀ (hx : i < xs.length) W', Cl W' g 67 (a ++ .int .i64 xs[i].f0 :: .int .i64 xs[i].f1 :: .string xs[i].f2 :: .bool xs[i].f3 :: r) → VaRow W' g xs (i + 1)) ∧ (xs.length ≤ i → ∀ W', Cl W' g 67 (a ++ .int .i64 77 :: .int .i64 7 :: .string ⟨#[]⟩ :: .bool false :: r) → VaRow W' g xs (i + 1)) := by
  have hN : (xs ++ List.replicate 6 mkV).length = xs.length + 6 := by simp
  have hz : 0 < zV.length := by decide
  have key : ∀ W', Cl W' g 67 (((xs ++ List.replicate 6 mkV).take i).flatMap vaC ++ (vaC ((xs ++ List.replicate 6 mkV)[i]'(by omega)) ++ zr zV (xs.length + 6 - (i + 1)))) → VaRow W' g xs (i + 1) := by
    intro W' h'
    rw [row_on vaC (by omega) _] at h'
    exact h'
  refine ⟨((xs ++ List.replicate 6 mkV).take i).flatMap vaC, zr zV (xs.length + 6 - (i + 1)), ?_, ?_, fun hx W' h' => ?_, fun hx W' h' => ?_⟩
  · rw [flatC_len vaC 4 (fun _ => rfl), List.length_take]; omega
  · have h := (show Cl W g 67 _ from h)
    rw [row_at vaC zV hz hN hi] at h
    exact h
  · refine key W' ?_
    rw [List.getElem_append_left hx]
    exact h'
  · refine key W' ?_
    rw [List.getElem_append_right hx, List.getElem_replicate]
    exact h'
theorem SvRow.open_ {base : Nat} {W : World} {g : Nat} {xs : List S60} {i : Nat} (h : SvRow base W g xs i) (hi : i < xs.length + 6) :
    ∃ a r, a.length = i * 4 ∧ Cl W g 60 (a ++ .string ⟨#[]⟩ :: .string ⟨#[]⟩ :: .int .i64 0 :: .bool false :: r) ∧ (∀ (hx : i < xs.length) W', Cl W' g 60 (a ++ .string xs[i].f0 :: .string xs[i].f1 :: .int .i64 xs[i].f2 :: .bool xs[i].f3 :: r) → SvRow base W' g xs (i + 1)) ∧ (xs.length ≤ i → ∀ W', Cl W' g 60 (a ++ .string mk4 :: .string ⟨#[]⟩ :: .int .i64 0 :: .bool false :: r) → SvRow base W' g xs (i + 1)) := by
  have hN : (xs ++ List.replicate 6 mkQ).length = xs.length + 6 := by simp
  have hz : 0 < zQ.length := by decide
  have key : ∀ W', Cl W' g 60 (((xs ++ List.replicate 6 mkQ).take i).flatMap svC ++ (svC ((xs ++ List.replicate 6 mkQ)[i]'(by omega)) ++ zr zQ (xs.length + 6 - (i + 1)))) → SvRow base W' g xs (i + 1) := by
    intro W' h'
    rw [row_on svC (by omega) _] at h'
    exact ⟨h.1, h'⟩
  refine ⟨((xs ++ List.replicate 6 mkQ).take i).flatMap svC, zr zQ (xs.length + 6 - (i + 1)), ?_, ?_, fun hx W' h' => ?_, fun hx W' h' => ?_⟩
  · rw [flatC_len svC 4 (fun _ => rfl), List.length_take]; omega
  · have h := h.2
    rw [row_at svC zQ hz hN hi] at h
    exact h
  · refine key W' ?_
    rw [List.getElem_append_left hx]
    exact h'
  · refine key W' ?_
    rw [List.getElem_append_right hx, List.getElem_replicate]
    exact h'
theorem TyRow.open_ {base : Nat} {W : World} {g : Nat} {xs : List S56} {i : Nat} (h : TyRow base W g xs i) (hi : i < xs.length + 6) :
    ∃ a r, a.length = i * 2 ∧ Cl W g 56 (a ++ .string ⟨#[]⟩ :: .slice none 0 0 :: r) ∧
      (xs.length ≤ i → ∀ W', Cl W' g 56 (a ++ .string mk4 :: .slice none 0 0 :: r) → KeepBut W W' g none → TyRow base W' g xs (i + 1)) ∧
      (∀ hx : i < xs.length, ∀ W' cs, Cl W' g 56 (a ++ (cs ++ r)) → KeepBut W W' g none → TyE base W' xs[i] cs → TyRow base W' g xs (i + 1)) := by
  obtain ⟨hb, d, h2, h3⟩ := h
  rw [show xs.length + 6 - i = (xs.length + 6 - (i + 1)) + 1 by omega, zr_succ zT (by decide)] at h3
  refine ⟨d ++ (List.replicate (i - xs.length) mkT).flatten, zr zT (xs.length + 6 - (i + 1)), ?_, ?_, fun hx W' h' hk => ?_, fun hx W' cs h' hk he => ?_⟩
  · have := h2.1
    rw [List.length_take] at this
    rw [List.length_append, this, List.length_flatten]
    simp [mkT]
    omega
  · rw [List.append_assoc]
    exact h3
  · refine ⟨hb, d, ?_, ?_⟩
    · rw [show xs.take (i + 1) = xs.take i by rw [List.take_of_length_le (by omega), List.take_of_length_le (by omega)]]
      exact h2.imp_ (fun _ _ h => h.keep hk h3 (by decide))
    · rw [show i + 1 - xs.length = (i - xs.length) + 1 by omega, List.replicate_succ', List.flatten_append, List.append_assoc]
      rw [List.append_assoc] at h'
      simpa [mkT] using h'
  · have hl : cs.length = 2 := by obtain ⟨_, _, rfl, _⟩ := he; rfl
    rw [show i - xs.length = 0 by omega] at h'
    refine ⟨hb, d ++ cs, ?_, ?_⟩
    · rw [take_snoc hx]
      exact (h2.imp_ (fun _ _ h => h.keep hk h3 (by decide))).snoc he hl
    · rw [show i + 1 - xs.length = 0 by omega]
      simpa using h'
theorem SnRow.open_ {base : Nat} {W : World} {g : Nat} {xs : List S65} {i : Nat} (h : SnRow base W g xs i) (hi : i < xs.length + 6) :
    ∃ a r, a.length = i * 5 ∧ Cl W g 65 (a ++ .int .i64 0 :: .string ⟨#[]⟩ :: .int .i64 0 :: .slice none 0 0 :: .bool false :: r) ∧
      (xs.length ≤ i → ∀ W', Cl W' g 65 (a ++ .int .i64 (-77) :: .string ⟨#[]⟩ :: .int .i64 0 :: .slice none 0 0 :: .bool false :: r) → KeepBut W W' g none → SnRow base W' g xs (i + 1)) ∧
      (∀ hx : i < xs.length, ∀ W' cs, Cl W' g 65 (a ++ (cs ++ r)) → KeepBut W W' g none → SnE base W' xs[i] cs → SnRow base W' g xs (i + 1)) := by
  obtain ⟨hb, d, h2, h3⟩ := h
  rw [show xs.length + 6 - i = (xs.length + 6 - (i + 1)) + 1 by omega, zr_succ zS (by decide)] at h3
  refine ⟨d ++ (List.replicate (i - xs.length) mkS).flatten, zr zS (xs.length + 6 - (i + 1)), ?_, ?_, fun hx W' h' hk => ?_, fun hx W' cs h' hk he => ?_⟩
  · have := h2.1
    rw [List.length_take] at this
    rw [List.length_append, this, List.length_flatten]
    simp [mkS]
    omega
  · rw [List.append_assoc]
    exact h3
  · refine ⟨hb, d, ?_, ?_⟩
    · rw [show xs.take (i + 1) = xs.take i by rw [List.take_of_length_le (by omega), List.take_of_length_le (by omega)]]
      exact h2.imp_ (fun _ _ h => h.keep hk h3 (by decide))
    · rw [show i + 1 - xs.length = (i - xs.length) + 1 by omega, List.replicate_succ', List.flatten_append, List.append_assoc]
      rw [List.append_assoc] at h'
      simpa [mkS] using h'
  · have hl : cs.length = 5 := by obtain ⟨_, _, rfl, _⟩ := he; rfl
    rw [show i - xs.length = 0 by omega] at h'
    refine ⟨hb, d ++ cs, ?_, ?_⟩
    · rw [take_snoc hx]
      exact (h2.imp_ (fun _ _ h => h.keep hk h3 (by decide))).snoc he hl
    · rw [show i + 1 - xs.length = 0 by omega]
      simpa using h'
end Go.Proofs.YtcfgmkmllcfjjaaGreatDoor
