import Derived.Test.YtcfgmkmllcfjjaaGreatDoorZAU
import Derived.Test.YtcfgmkmllcfjjaaGreatDoorZAT
set_option linter.unusedVariables false
set_option linter.unusedSimpArgs false
namespace Go.Proofs.YtcfgmkmllcfjjaaGreatDoor
open Go.RowKit Go.Proofs.YtcfgmkmllcfjjaaGreatDoorW.PrintWords Go.Proofs.YtcfgmkmllcfjjaaGreatDoorW.PrintMore PImageAll
theorem TF.drew {w W : World} {m : Img} {v4 v5 v6 : Value} (h : TF w m v4 v5 v6 W) : TF w m v4 v5 v6 W.drew := ⟨below_drew h.B, h.box, h.out⟩
theorem TyRow.drew {base : Nat} {W : World} {g : Nat} {xs : List S56} {i : Nat} (h : TyRow base W g xs i) : TyRow base W.drew g xs i := h
theorem SnRow.drew {base : Nat} {W : World} {g : Nat} {xs : List S65} {i : Nat} (h : SnRow base W g xs i) : SnRow base W.drew g xs i := h
theorem SvRow.drew {base : Nat} {W : World} {g : Nat} {xs : List S60} {i : Nat} (h : SvRow base W g xs i) : SvRow base W.drew g xs i := h
theorem mark_any (w : World) : Calls Tryz.prog 21 #[] w fun e w' => e = .returned (.agg #[.int .i64 77, .int .i64 7, .string ⟨#[]⟩, .bool false]) ∧ Below w.heap.size w w' := by
  go_enter Tryz.func21, Tryz.ntmps21
  go_wp2_with fail
  exact bodyPost_ret (results_cell_row rfl _ _ w.heap.size 67 #[.int .i64 77, .int .i64 7, .string ⟨#[]⟩, .bool false] (0, 0) _ rfl (blk_new w _) Tryz.underlying67 rfl (by kernel_rfl)) rfl ⟨rfl, below_new w _⟩
theorem TF.s4 {w W : World} {m : Img} {v4 v5 v6 : Value} (h : TF w m v4 v5 v6 W) (v : Value) : TF w m v v5 v6 (W.setCell ⟨w.heap.size, 4, none⟩ v) := ⟨h.B.setCell (p := ⟨w.heap.size, 4, none⟩) (Nat.le_refl _) _, h.box.s4 v, blk_far h.out (p := ⟨w.heap.size, 4, none⟩) (by show w.heap.size + 1 ≠ w.heap.size; omega) _⟩
theorem TF.s5 {w W : World} {m : Img} {v4 v5 v6 : Value} (h : TF w m v4 v5 v6 W) (v : Value) : TF w m v4 v v6 (W.setCell ⟨w.heap.size, 5, none⟩ v) := ⟨h.B.setCell (p := ⟨w.heap.size, 5, none⟩) (Nat.le_refl _) _, h.box.s5 v, blk_far h.out (p := ⟨w.heap.size, 5, none⟩) (by show w.heap.size + 1 ≠ w.heap.size; omega) _⟩
theorem TF.s6 {w W : World} {m : Img} {v4 v5 v6 : Value} (h : TF w m v4 v5 v6 W) (v : Value) : TF w m v4 v5 v (W.setCell ⟨w.heap.size, 6, none⟩ v) := ⟨h.B.setCell (p := ⟨w.heap.size, 6, none⟩) (Nat.le_refl _) _, h.box.s6 v, blk_far h.out (p := ⟨w.heap.size, 6, none⟩) (by show w.heap.size + 1 ≠ w.heap.size; omega) _⟩
theorem cutN {t e : Nat} {z : Value} {sz by_ : Nat} (ht : Tryz.prog.underlying t = some (.slice e)) (hinfo : (Tryz.prog.info? e).map (fun i => (i.zero, i.size, i.bytes)) = some (some z, sz, by_)) (g n q : Nat) (hn : n ≤ q) :
    ∀ W, (Instr.slice t (.slice (some ⟨g, 0, none⟩) q q) none (some (.int .i64 (n : Int))) none).run Tryz.prog W = .ok (.slice (some ⟨g, 0, none⟩) n q) W := by
  obtain ⟨i0, hi, _⟩ := Option.map_eq_some_iff.1 hinfo
  have := cut_to (P := Tryz.prog) t e .i64 ht hi (some ⟨g, 0, none⟩) q q (n : Int) (by omega) (by omega) (Nat.le_refl _)
  simpa using this
theorem wrap6 {n : Nat} (h : n ≤ 1000000000000) : IntKind.i64.wrap ((n : Int) + 6) = ((n + 6 : Nat) : Int) := by rw [IntKind.wrap_i64]; omega
set_option maxRecDepth 100000 in
set_option maxHeartbeats 8000000 in
theorem twin_any {w : World} {m : Img} {A4 A5 A6 : Option Addr} {c4 c5 c6 : Nat} (hL : ImgL m) (hV : ImgV w m A4 c4 A5 c5 A6 c6) :
    Calls Tryz.prog 6 #[imgV m (.slice A4 m.types.length c4) (.slice A5 m.saved.length c5) (.slice A6 m.seens.length c6)] w fun e w' => ∃ g4 g5 g6, e = .returned (imgV m (.slice (some ⟨g4, 0, none⟩) m.types.length (m.types.length + 6)) (.slice (some ⟨g5, 0, none⟩) m.saved.length (m.saved.length + 6)) (.slice (some ⟨g6, 0, none⟩) m.seens.length (m.seens.length + 6))) ∧ Twn w.heap.size w' m g4 g5 g6 ∧ Below w.heap.size w w' := by
  unfold imgV
  generalize hW0 : (w.alloc (.cells #[.int .i64 m.runs, .int .i64 m.made, .int .i64 m.seq, .int .i64 m.now, .slice A4 m.types.length c4, .slice A5 m.saved.length c5, .slice A6 m.seens.length c6] 31)) = Wa
  generalize hW1 : (Wa.alloc (.cells #[.int .i64 0, .int .i64 0, .int .i64 0, .int .i64 0, .slice none 0 0, .slice none 0 0, .slice none 0 0] 31)) = W1
  have sa : Wa.heap.size = w.heap.size + 1 := by rw [← hW0]; simp
  have HW0 := Lib.hid hW0
  have HW1 := Lib.hid hW1
  have ha : Below w.heap.size w Wa := by rw [← hW0]; exact below_new w _
  have hb : Below Wa.heap.size Wa W1 := by rw [← hW1]; exact below_new Wa _
  have HF : Hid (TF w m (.slice A4 m.types.length c4) (.slice A5 m.saved.length c5) (.slice A6 m.seens.length c6) W1) := Lib.hid ⟨below_step ha hb, blk_below (by rw [← hW0]; exact blk_new w _) hb, by rw [← sa, ← hW1]; exact blk_new Wa _⟩
  have HS := Lib.hid (show W1.heap.size = w.heap.size + 2 by rw [← hW1]; simp [sa])
  have HV := Lib.hid hV
  have HL := Lib.hid hL
  have HT0 := Lib.hid (fun (W : World) (hW : w.heap.size ≤ W.heap.size) => TyRow.start w W hW m.types)
  have HQ0 := Lib.hid (fun (W : World) (hW : w.heap.size ≤ W.heap.size) => SvRow.start w W hW m.saved)
  have HN0 := Lib.hid (fun (W : World) (hW : w.heap.size ≤ W.heap.size) => SnRow.start w W hW m.seens)
  obtain ⟨nT, hnT⟩ : ∃ n, n = m.types.length + 6 := ⟨_, rfl⟩
  obtain ⟨nQ, hnQ⟩ : ∃ n, n = m.saved.length + 6 := ⟨_, rfl⟩
  obtain ⟨nN, hnN⟩ : ∃ n, n = m.seens.length + 6 := ⟨_, rfl⟩
  have wT : IntKind.i64.wrap ((m.types.length : Int) + 6) = (nT : Int) := by rw [hnT]; exact wrap6 hL.t
  have wQ : IntKind.i64.wrap ((m.saved.length : Int) + 6) = (nQ : Int) := by rw [hnQ]; exact wrap6 hL.q
  have wN : IntKind.i64.wrap ((m.seens.length : Int) + 6) = (nN : Int) := by rw [hnN]; exact wrap6 hL.s
  have mT := make_row Tryz.underlying27 zT 40 infoT nT (by have := hL.t; omega) (by decide)
  have mQ := make_row Tryz.underlying28 zQ 48 infoQ nQ (by have := hL.q; omega) (by decide)
  have mN := make_row Tryz.underlying29 zS 64 infoS nN (by have := hL.s; omega) (by decide)
  have hnTb : nT ≤ 2000000000000 := by have := hL.t; omega
  have hnQb : nQ ≤ 2000000000000 := by have := hL.q; omega
  have hnNb : nN ≤ 2000000000000 := by have := hL.s; omega
  have HnT := Lib.hid hnT
  have HnQ := Lib.hid hnQ
  have HnN := Lib.hid hnN
  have b4 := (IBox.cells HF.out.box 4).trans rfl
  clear hW0 hW1 sa ha hb hV hL hnT hnQ hnN
  go_enter Tryz.func6, Tryz.ntmps6
  go_upto_region 1 with fail
  rw [HW0.out, HW1.out]
  go_upto_region 3 with fail
  have hT0 : TyRow w.heap.size (W1.alloc (.cells (madeCells zT.toArray (nT * zT.length)) 56)) W1.heap.size m.types 0 := by
    have := HT0.out W1 (by rw [HS.out]; omega)
    rwa [← HnT.out] at this
  have hF1 := HF.out.below (below_new W1 (.cells (madeCells zT.toArray (nT * zT.length)) 56))
  generalize W1.alloc (.cells (madeCells zT.toArray (nT * zT.length)) 56) = W2 at *
  clear HW1 HW0 HF
  generalize W1.heap.size = g4 at *
  have HF1 := Lib.hid hF1
  have HT1 := Lib.hid hT0
  clear HT0 hF1 hT0 b4 mT
  go_loopw [4] (fun t4 wr => ∃ k : Nat, k ≤ nT ∧ t4 = .int .i64 k ∧ Hid (TF w m (.slice A4 m.types.length c4) (.slice A5 m.saved.length c5) (.slice A6 m.seens.length c6) wr) ∧ Hid (TyRow w.heap.size wr g4 m.types k)) (fun t4 _ => nT - (intOf t4).toNat)
  case atStart => exact ⟨0, by omega, rfl, HF1, HT1⟩
  case round =>
    obtain ⟨k, hk, rfl, hF, hT⟩ := hrel
    have b4 := (IBox.cells hF.out.box 4).trans rfl
    by_cases hlt : k < nT
    · have i1 : (0 : Int) ≤ (k : Int) := by omega
      have i2 : (k : Int) < (nT : Int) := by omega
      obtain ⟨a, r, ha, hc, hmark, htype⟩ := hT.out.open_ (by rw [← HnT.out]; exact hlt)
      have q0 : wr.cell? ⟨g4, k * 2, none⟩ = some (.string ⟨#[]⟩) := by rw [hc.cell, ← ha]; simp
      have q0f := hc.fr (k * 2)
      have hg4 := hT.out.1
      have hB3 : Below w.heap.size w (wr.setCell ⟨g4, k * 2, none⟩ (.string mk4)) := hF.out.B.setCell hg4 _
      have hc3 := hc.put1 ha (.string mk4)
      have hF3 := hF.out.far hc (by decide) hg4 (keep_set wr g4 (k * 2) (.string mk4)) hB3
      have HC3 := Lib.hid hc3
      have HF3 := Lib.hid hF3
      have HK3 := Lib.hid (keep_set wr g4 (k * 2) (.string mk4))
      have HM3 := Lib.hid (fun hx => hmark hx _ hc3 (keep_set wr g4 (k * 2) (.string mk4)))
      have HTY := Lib.hid htype
      have HA := Lib.hid ha
      clear hc hmark htype ha hB3 hc3 hF3 hF hg4
      go_upto_region 6 with fail
      generalize wr.setCell ⟨g4, k * 2, none⟩ (.string mk4) = W3 at *
      have b4 := (IBox.cells HF3.out.box 4).trans rfl
      by_cases hlx : k < m.types.length
      · have i3 : (k : Int) < (m.types.length : Int) := by omega
        obtain ⟨ad, A1, c1, e4, d0, d1, hl1, hr1⟩ := atk56N HV.out.1.1 k hlx hlx
        have HTX := Lib.hid (fun W' cs => HTY.out hlx W' cs)
        have hla := HL.out.a _ (List.getElem_mem hlx)
        subst e4
        generalize m.types[k] = x at *
        have d0' := pw_cell_below HF3.out.B d0
        have d1' := pw_cell_below HF3.out.B d1
        have HD0 := Lib.hid d0
        have HD1 := Lib.hid d1
        have HR1 := Lib.hid hr1
        obtain ⟨q, hq⟩ : ∃ n, n = x.f1.length + 6 := ⟨_, rfl⟩
        have wq : IntKind.i64.wrap ((x.f1.length : Int) + 6) = (q : Int) := by rw [hq]; exact wrap6 hla
        have mA := make_row Tryz.underlying54 zA 24 infoA q (by omega) (by decide)
        have HQ := Lib.hid hq
        have hqb : q ≤ 2000000000000 := by omega
        have HLA := Lib.hid hla
        clear d0 d1 hr1 HTY HM3 q0 q0f hq hla hl1
        go_upto_region 10 with fail
        have hA0 : AtRow (W3.alloc (.cells (madeCells zA.toArray (q * zA.length)) 58)) W3.heap.size x.f1 0 := by
          have := AtRow.start W3 x.f1
          rwa [← HQ.out] at this
        have HA1 := Lib.hid hA0
        have HB1 := Lib.hid (below_new W3 (.cells (madeCells zA.toArray (q * zA.length)) 58))
        generalize W3.alloc (.cells (madeCells zA.toArray (q * zA.length)) 58) = W4 at *
        clear hA0 mA b4 d0' d1'
        obtain ⟨wo, rfl⟩ : ∃ wo : World, wo = wr := ⟨_, rfl⟩
        go_loopw [7] (fun t7 wr2 => ∃ j : Nat, j ≤ q ∧ t7 = .int .i64 j ∧ Hid (AtRow wr2 W3.heap.size x.f1 j) ∧ Hid (Below W3.heap.size W3 wr2)) (fun t7 _ => q - (intOf t7).toNat)
        case atStart => exact ⟨0, by omega, rfl, HA1, HB1⟩
        case round =>
          obtain ⟨j, hj, rfl, hA, hB⟩ := hrel
          have i5 : (0 : Int) ≤ (j : Int) := by omega
          have hF4 := HF3.out.below hB.out
          have b4 := (IBox.cells hF4.box 4).trans rfl
          by_cases hjq : j < q
          · have i6 : (j : Int) < (q : Int) := by omega
            obtain ⟨a', r', ha', hc', hin, hout⟩ := hA.out.open_ (by rw [← HQ.out]; exact hjq)
            have q0 : wr.cell? ⟨W3.heap.size, j * 2, none⟩ = some (.string ⟨#[]⟩) := by rw [hc'.cell, ← ha']; simp
            have q1 : wr.cell? ⟨W3.heap.size, j * 2 + 1, none⟩ = some (.int .i64 0) := by rw [hc'.cell, ← ha']; simp
            have q0f := hc'.fr (j * 2)
            have q1f := hc'.fr (j * 2 + 1)
            have HC5 := Lib.hid (hc'.put2 ha' (.string mk4) (.int .i64 77))
            have HB5 := Lib.hid ((hB.out.setCell (p := ⟨W3.heap.size, j * 2, none⟩) (Nat.le_refl _) (.string mk4)).setCell (p := ⟨W3.heap.size, j * 2 + 1, none⟩) (Nat.le_refl _) (.int .i64 77))
            have HIN := Lib.hid hin
            have HOUT := Lib.hid hout
            have HA' := Lib.hid ha'
            clear hA hB hF4 hc' hin hout ha'
            go_upto_region 13 with fail
            generalize (wr.setCell ⟨W3.heap.size, j * 2, none⟩ (.string mk4)).setCell ⟨W3.heap.size, j * 2 + 1, none⟩ (.int .i64 77) = W5 at *
            have hF5 := HF3.out.below HB5.out
            have b4 := (IBox.cells hF5.box 4).trans rfl
            clear q0 q1 q0f q1f
            by_cases hjx : j < x.f1.length
            · have i7 : (j : Int) < (x.f1.length : Int) := by omega
              obtain ⟨ad2, e1', f0, f1⟩ := atk58N HR1.out j hjx hjx
              subst e1'
              have d1 := pw_cell_below hF5.B HD1.out
              have f0 := pw_cell_below hF5.B f0
              have f1 := pw_cell_below hF5.B f1
              have q0 : W5.cell? ⟨W3.heap.size, j * 2, none⟩ = some (.string mk4) := by rw [HC5.out.cell, ← HA'.out]; simp
              have q1 : W5.cell? ⟨W3.heap.size, j * 2 + 1, none⟩ = some (.int .i64 77) := by rw [HC5.out.cell, ← HA'.out]; simp
              have q0f := HC5.out.fr (j * 2)
              have q1f := HC5.out.fr (j * 2 + 1)
              have HC6 := Lib.hid (HIN.out hjx _ (HC5.out.put2 HA'.out (.string x.f1[j].f0) (.int .i64 x.f1[j].f1)))
              have HB6 := Lib.hid ((HB5.out.setCell (p := ⟨W3.heap.size, j * 2, none⟩) (Nat.le_refl _) (.string x.f1[j].f0)).setCell (p := ⟨W3.heap.size, j * 2 + 1, none⟩) (Nat.le_refl _) (.int .i64 x.f1[j].f1))
              clear HIN HOUT hF5 HR1
              generalize x.f1[j] = y at *
              go_wp2_with fail
              go_roundw
              case rel => exact ⟨j + 1, by omega, by go_num, HC6, HB6⟩
              case measure => simp [intOf]; omega
            · have i7 : ¬ (j : Int) < (x.f1.length : Int) := by omega
              go_wp2_with fail
              go_roundw
              case rel => exact ⟨j + 1, by omega, by go_num, Lib.hid (HOUT.out (by omega) _ HC5.out), HB5⟩
              case measure => simp [intOf]; omega
          · have i6 : ¬ (j : Int) < (q : Int) := by omega
            obtain rfl : q = j := by omega
            have hD := AtRow.done (show AtRow wr W3.heap.size x.f1 (x.f1.length + 6) by have h1 := hA.out; rwa [HQ.out] at h1)
            have hle : w.heap.size ≤ W3.heap.size := HF3.out.B.size
            have hty : TyE w.heap.size wr x [.string x.f0, .slice (some ⟨W3.heap.size, 0, none⟩) x.f1.length q] := ⟨_, hle, by rw [HQ.out], hD⟩
            have hc6 : Cl wr g4 56 (a ++ .string mk4 :: .slice none 0 0 :: r) := HC3.out.below hB.out
            have p0 : wr.cell? ⟨g4, k * 2, none⟩ = some (.string mk4) := by rw [hc6.cell, ← HA.out]; simp
            have p1 : wr.cell? ⟨g4, k * 2 + 1, none⟩ = some (.slice none 0 0) := by rw [hc6.cell, ← HA.out]; simp
            have p0f := hc6.fr (k * 2)
            have p1f := hc6.fr (k * 2 + 1)
            have d0 := pw_cell_below hF4.B HD0.out
            have hs := cutN Tryz.underlying54 infoA W3.heap.size x.f1.length q (by have := HQ.out; omega)
            have hg4 : w.heap.size ≤ g4 := by have := HS.out; omega
            have hK7 := (keep_set wr g4 (k * 2) (.string x.f0)).set_ (k * 2 + 1) (.slice (some ⟨W3.heap.size, 0, none⟩) x.f1.length q)
            have hc7 := hc6.put2 HA.out (.string x.f0) (.slice (some ⟨W3.heap.size, 0, none⟩) x.f1.length q)
            have HB7 := Lib.hid ((hF4.B.setCell (p := ⟨g4, k * 2, none⟩) hg4 (.string x.f0)).setCell (p := ⟨g4, k * 2 + 1, none⟩) hg4 (.slice (some ⟨W3.heap.size, 0, none⟩) x.f1.length q))
            have HF7 := Lib.hid (hF4.far hc6 (by decide) hg4 hK7 HB7.out)
            have HT7 := Lib.hid (HTX.out _ _ hc7 ((HK3.out.trans (KeepBut.of_below hB.out g4 none) (.inl rfl)).trans hK7 (.inl rfl)) (hty.keep hK7 hc6 (by decide)))
            clear hA hB hF4 hD hle hty hc6 hK7 hc7 hg4
            go_wp2_with fail
            go_region
            go_wp2_with fail
            go_roundw
            case rel => exact ⟨k + 1, by omega, by go_num, Lib.hid (TF.drew HF7.out), Lib.hid (TyRow.drew HT7.out)⟩
            case measure => simp [intOf]; omega
      · have i4 : ¬ (k : Int) < (m.types.length : Int) := by omega
        go_wp2_with fail
        go_roundw
        case rel => exact ⟨k + 1, by omega, by go_num, HF3, Lib.hid (HM3.out (by omega))⟩
        case measure => simp [intOf]; omega
    · obtain rfl : nT = k := by omega
      have b5 := (IBox.cells hF.out.box 5).trans rfl
      have hT2 : TyRow w.heap.size wr g4 m.types (m.types.length + 6) := by have h1 := hT.out; rwa [HnT.out] at h1
      have hF2 := hF.out
      clear hF hT HF1 HT1 hlt
      go_upto_region 18 with fail
      have hQ0 : SvRow w.heap.size (wr.alloc (.cells (madeCells zQ.toArray (nQ * zQ.length)) 60)) wr.heap.size m.saved 0 := by
        have := HQ0.out wr hF2.B.size
        rwa [← HnQ.out] at this
      have hb6 := below_new wr (.cells (madeCells zQ.toArray (nQ * zQ.length)) 60)
      have HF6 := Lib.hid (hF2.below hb6)
      have HT6 := Lib.hid (hT2.below hb6)
      have HQ6 := Lib.hid hQ0
      clear hF2 hT2 hb6 hQ0 b4 b5 HQ0 mQ
      generalize wr.alloc (.cells (madeCells zQ.toArray (nQ * zQ.length)) 60) = W6 at *
      generalize wr.heap.size = g5 at *
      go_loopw [9] (fun t9 wr => ∃ i : Nat, i ≤ nQ ∧ t9 = .int .i64 i ∧ Hid (TF w m (.slice A4 m.types.length c4) (.slice A5 m.saved.length c5) (.slice A6 m.seens.length c6) wr) ∧ Hid (TyRow w.heap.size wr g4 m.types (m.types.length + 6)) ∧ Hid (SvRow w.heap.size wr g5 m.saved i)) (fun t9 _ => nQ - (intOf t9).toNat)
      case atStart => exact ⟨0, by omega, rfl, HF6, HT6, HQ6⟩
      case round =>
        obtain ⟨i, hi, rfl, hF, hT, hQ⟩ := hrel
        have b5 := (IBox.cells hF.out.box 5).trans rfl
        by_cases hlt : i < nQ
        · have i1' : (0 : Int) ≤ (i : Int) := by omega
          have i2' : (i : Int) < (nQ : Int) := by omega
          obtain ⟨a, r, ha, hc, hin, hout⟩ := hQ.out.open_ (by rw [← HnQ.out]; exact hlt)
          have hg5 := hQ.out.1
          have q0 : wr.cell? ⟨g5, i * 4, none⟩ = some (.string ⟨#[]⟩) := by rw [hc.cell, ← ha]; simp
          have q0f := hc.fr (i * 4)
          have hk1 := keep_set wr g5 (i * 4) (.string mk4)
          have HC7 := Lib.hid (hc.put1 ha (.string mk4))
          have HF7 := Lib.hid (hF.out.far hc (by decide) hg5 hk1 (hF.out.B.setCell hg5 _))
          have HT7 := Lib.hid (hT.out.keep hk1 hc (by decide) (by decide))
          have HIN := Lib.hid hin
          have HOUT := Lib.hid hout
          have HA := Lib.hid ha
          have HG5 := Lib.hid hg5
          clear hF hT hQ hc hin hout ha hk1 hg5
          go_upto_region 21 with fail
          generalize wr.setCell ⟨g5, i * 4, none⟩ (.string mk4) = W7 at *
          have b5 := (IBox.cells HF7.out.box 5).trans rfl
          clear q0 q0f
          by_cases hlx : i < m.saved.length
          · have i3 : (i : Int) < (m.saved.length : Int) := by omega
            obtain ⟨ad, e5, d0, d1, d2, d3⟩ := atk60N HV.out.2.1.1 i hlx hlx
            subst e5
            have d0 := pw_cell_below HF7.out.B d0
            have d1 := pw_cell_below HF7.out.B d1
            have d2 := pw_cell_below HF7.out.B d2
            have d3 := pw_cell_below HF7.out.B d3
            have p0 : W7.cell? ⟨g5, i * 4, none⟩ = some (.string mk4) := by rw [HC7.out.cell, ← HA.out]; simp
            have p1 : W7.cell? ⟨g5, i * 4 + 1, none⟩ = some (.string ⟨#[]⟩) := by rw [HC7.out.cell, ← HA.out]; simp
            have p2 : W7.cell? ⟨g5, i * 4 + 2, none⟩ = some (.int .i64 0) := by rw [HC7.out.cell, ← HA.out]; simp
            have p3 : W7.cell? ⟨g5, i * 4 + 3, none⟩ = some (.bool false) := by rw [HC7.out.cell, ← HA.out]; simp
            have f0 := HC7.out.fr (i * 4)
            have f1 := HC7.out.fr (i * 4 + 1)
            have f2 := HC7.out.fr (i * 4 + 2)
            have f3 := HC7.out.fr (i * 4 + 3)
            have hk2 := (((keep_set W7 g5 (i * 4) (.string m.saved[i].f0)).set_ (i * 4 + 1) (.string m.saved[i].f1)).set_ (i * 4 + 2) (.int .i64 m.saved[i].f2)).set_ (i * 4 + 3) (.bool m.saved[i].f3)
            have HF8 := Lib.hid (HF7.out.far HC7.out (by decide) HG5.out hk2 ((((HF7.out.B.setCell (p := ⟨g5, i * 4, none⟩) HG5.out _).setCell (p := ⟨g5, i * 4 + 1, none⟩) HG5.out _).setCell (p := ⟨g5, i * 4 + 2, none⟩) HG5.out _).setCell (p := ⟨g5, i * 4 + 3, none⟩) HG5.out _))
            have HT8 := Lib.hid (HT7.out.keep hk2 HC7.out (by decide) (by decide))
            have HQ8 := Lib.hid (HIN.out hlx _ (HC7.out.put4 HA.out (.string m.saved[i].f0) (.string m.saved[i].f1) (.int .i64 m.saved[i].f2) (.bool m.saved[i].f3)))
            clear hk2 HIN HOUT HF7 HT7
            generalize m.saved[i] = y at *
            go_wp2_with fail
            go_roundw
            case rel => exact ⟨i + 1, by omega, by go_num, HF8, HT8, HQ8⟩
            case measure => simp [intOf]; omega
          · have i4 : ¬ (i : Int) < (m.saved.length : Int) := by omega
            go_wp2_with fail
            go_roundw
            case rel => exact ⟨i + 1, by omega, by go_num, HF7, HT7, Lib.hid (HOUT.out (by omega) _ HC7.out)⟩
            case measure => simp [intOf]; omega
        · obtain rfl : nQ = i := by omega
          have b6 := (IBox.cells hF.out.box 6).trans rfl
          have hQ2 : SvRow w.heap.size wr g5 m.saved (m.saved.length + 6) := by have h1 := hQ.out; rwa [HnQ.out] at h1
          have hF2 := hF.out
          have hT2 := hT.out
          clear hF hT hQ HF6 HT6 HQ6 hlt
          go_upto_region 25 with fail
          have hN0 : SnRow w.heap.size (wr.alloc (.cells (madeCells zS.toArray (nN * zS.length)) 65)) wr.heap.size m.seens 0 := by
            have := HN0.out wr hF2.B.size
            rwa [← HnN.out] at this
          have hb6 := below_new wr (.cells (madeCells zS.toArray (nN * zS.length)) 65)
          have HF6 := Lib.hid (hF2.below hb6)
          have HT6 := Lib.hid (hT2.below hb6)
          have HQ6 := Lib.hid (hQ2.below hb6)
          have HN6 := Lib.hid hN0
          clear hF2 hT2 hQ2 hb6 hN0 b5 b6 HN0 mN
          generalize wr.alloc (.cells (madeCells zS.toArray (nN * zS.length)) 65) = W6 at *
          generalize wr.heap.size = g6 at *
          go_loopw [11] (fun t11 wr => ∃ i : Nat, i ≤ nN ∧ t11 = .int .i64 i ∧ Hid (TF w m (.slice A4 m.types.length c4) (.slice A5 m.saved.length c5) (.slice A6 m.seens.length c6) wr) ∧ Hid (TyRow w.heap.size wr g4 m.types (m.types.length + 6)) ∧ Hid (SvRow w.heap.size wr g5 m.saved (m.saved.length + 6)) ∧ Hid (SnRow w.heap.size wr g6 m.seens i)) (fun t11 _ => nN - (intOf t11).toNat)
          case atStart => exact ⟨0, by omega, rfl, HF6, HT6, HQ6, HN6⟩
          case round =>
            obtain ⟨i, hi, rfl, hF, hT, hQ, hN⟩ := hrel
            have b6 := (IBox.cells hF.out.box 6).trans rfl
            by_cases hlt : i < nN
            · have i1' : (0 : Int) ≤ (i : Int) := by omega
              have i2' : (i : Int) < (nN : Int) := by omega
              obtain ⟨a, r, ha, hc, hmark, hev⟩ := hN.out.open_ (by rw [← HnN.out]; exact hlt)
              have hg6 := hN.out.1
              have q0 : wr.cell? ⟨g6, i * 5, none⟩ = some (.int .i64 0) := by rw [hc.cell, ← ha]; simp
              have q0f := hc.fr (i * 5)
              have hk1 := keep_set wr g6 (i * 5) (.int .i64 (-77))
              have hc7 := hc.put1 ha (.int .i64 (-77))
              have HC7 := Lib.hid hc7
              have HF7 := Lib.hid (hF.out.far hc (by decide) hg6 hk1 (hF.out.B.setCell hg6 _))
              have HT7 := Lib.hid (hT.out.keep hk1 hc (by decide) (by decide))
              have HQ7 := Lib.hid (hQ.out.keep hk1 hc (by decide))
              have HK7 := Lib.hid hk1
              have HM7 := Lib.hid (fun hx => hmark hx _ hc7 hk1)
              have HEV := Lib.hid hev
              have HA := Lib.hid ha
              have HG6 := Lib.hid hg6
              clear hF hT hQ hN hc hmark hev ha hk1 hg6 hc7
              go_upto_region 28 with fail
              generalize wr.setCell ⟨g6, i * 5, none⟩ (.int .i64 (-77)) = W7 at *
              have b6 := (IBox.cells HF7.out.box 6).trans rfl
              clear q0 q0f
              by_cases hlx : i < m.seens.length
              · have i3 : (i : Int) < (m.seens.length : Int) := by omega
                obtain ⟨ad, A1, c1, e6, d0, d1, d2, d3, d4, hl1, hr1⟩ := atk65N HV.out.2.2.1 i hlx hlx
                have HEX := Lib.hid (fun W' cs => HEV.out hlx W' cs)
                have hla := HL.out.v _ (List.getElem_mem hlx)
                subst e6
                generalize m.seens[i] = x at *
                have HD3 := Lib.hid d3
                have HR1 := Lib.hid hr1
                have d0 := pw_cell_below HF7.out.B d0
                have d1 := pw_cell_below HF7.out.B d1
                have d2 := pw_cell_below HF7.out.B d2
                have d3 := pw_cell_below HF7.out.B d3
                have d4 := pw_cell_below HF7.out.B d4
                have p0 : W7.cell? ⟨g6, i * 5, none⟩ = some (.int .i64 (-77)) := by rw [HC7.out.cell, ← HA.out]; simp
                have p1 : W7.cell? ⟨g6, i * 5 + 1, none⟩ = some (.string ⟨#[]⟩) := by rw [HC7.out.cell, ← HA.out]; simp
                have p2 : W7.cell? ⟨g6, i * 5 + 2, none⟩ = some (.int .i64 0) := by rw [HC7.out.cell, ← HA.out]; simp
                have p3 : W7.cell? ⟨g6, i * 5 + 3, none⟩ = some (.slice none 0 0) := by rw [HC7.out.cell, ← HA.out]; simp
                have p4 : W7.cell? ⟨g6, i * 5 + 4, none⟩ = some (.bool false) := by rw [HC7.out.cell, ← HA.out]; simp
                have f0 := HC7.out.fr (i * 5)
                have f1 := HC7.out.fr (i * 5 + 1)
                have f2 := HC7.out.fr (i * 5 + 2)
                have f3 := HC7.out.fr (i * 5 + 3)
                have f4 := HC7.out.fr (i * 5 + 4)
                have hk2 := ((((keep_set W7 g6 (i * 5) (.int .i64 x.f0)).set_ (i * 5 + 1) (.string x.f1.f0)).set_ (i * 5 + 2) (.int .i64 x.f1.f1)).set_ (i * 5 + 3) (.slice A1 x.f1.f2.length c1)).set_ (i * 5 + 4) (.bool x.f2)
                have HF8 := Lib.hid (HF7.out.far HC7.out (by decide) HG6.out hk2 (((((HF7.out.B.setCell (p := ⟨g6, i * 5, none⟩) HG6.out _).setCell (p := ⟨g6, i * 5 + 1, none⟩) HG6.out _).setCell (p := ⟨g6, i * 5 + 2, none⟩) HG6.out _).setCell (p := ⟨g6, i * 5 + 3, none⟩) HG6.out _).setCell (p := ⟨g6, i * 5 + 4, none⟩) HG6.out _))
                have HT8 := Lib.hid (HT7.out.keep hk2 HC7.out (by decide) (by decide))
                have HQ8 := Lib.hid (HQ7.out.keep hk2 HC7.out (by decide))
                have HK8 := Lib.hid (HK7.out.trans hk2 (.inl rfl))
                have HC8 := Lib.hid (HC7.out.put5 HA.out (.int .i64 x.f0) (.string x.f1.f0) (.int .i64 x.f1.f1) (.slice A1 x.f1.f2.length c1) (.bool x.f2))
                obtain ⟨q, hq⟩ : ∃ n, n = x.f1.f2.length + 6 := ⟨_, rfl⟩
                have wq : IntKind.i64.wrap ((x.f1.f2.length : Int) + 6) = (q : Int) := by rw [hq]; exact wrap6 hla
                have mA := make_row Tryz.underlying61 zV 40 infoV q (by omega) (by decide)
                have HQn := Lib.hid hq
                have hqb : q ≤ 2000000000000 := by omega
                have HLA := Lib.hid hla
                clear hk2 HEV HM7 HF7 HT7 HQ7 HK7 HC7 hq hla hl1 hr1
                go_upto_region 30 with fail
                generalize ((((W7.setCell ⟨g6, i * 5, none⟩ (.int .i64 x.f0)).setCell ⟨g6, i * 5 + 1, none⟩ (.string x.f1.f0)).setCell ⟨g6, i * 5 + 2, none⟩ (.int .i64 x.f1.f1)).setCell ⟨g6, i * 5 + 3, none⟩ (.slice A1 x.f1.f2.length c1)).setCell ⟨g6, i * 5 + 4, none⟩ (.bool x.f2) = W8 at *
                clear d0 d1 d2 d3 d4 p0 p1 p2 p3 p4 f0 f1 f2 f3 f4 b6
                have b6 := (IBox.cells HF8.out.box 6).trans rfl
                have d3 := pw_cell_below HF8.out.B HD3.out
                go_upto_region 33 with fail
                have hA0 : VaRow (W8.alloc (.cells (madeCells zV.toArray (q * zV.length)) 67)) W8.heap.size x.f1.f2 0 := by
                  have := VaRow.start W8 x.f1.f2
                  rwa [← HQn.out] at this
                have HA1 := Lib.hid hA0
                have HB1 := Lib.hid (below_new W8 (.cells (madeCells zV.toArray (q * zV.length)) 67))
                generalize W8.alloc (.cells (madeCells zV.toArray (q * zV.length)) 67) = W9 at *
                clear hA0 mA b6 d3
                obtain ⟨wo, rfl⟩ : ∃ wo : World, wo = wr := ⟨_, rfl⟩
                go_loopw [14] (fun t14 wr => ∃ j : Nat, j ≤ q ∧ t14 = .int .i64 j ∧ Hid (VaRow wr W8.heap.size x.f1.f2 j) ∧ Hid (Below W8.heap.size W8 wr)) (fun t14 _ => q - (intOf t14).toNat)
                case atStart => exact ⟨0, by omega, rfl, HA1, HB1⟩
                case round =>
                  obtain ⟨j, hj, rfl, hA, hB⟩ := hrel
                  have i5 : (0 : Int) ≤ (j : Int) := by omega
                  by_cases hjq : j < q
                  · have i6 : (j : Int) < (q : Int) := by omega
                    go_upto_region 36 with (go_at_call 21; refine (mark_any wr).mono ?_; rintro e wm ⟨rfl, hBm⟩; obtain ⟨a', r', ha', hc', hin, hout⟩ := VaRow.open_ (hA.out.below hBm) (by rw [← HQn.out]; exact hjq); have q0 : wm.cell? ⟨W8.heap.size, j * 4, none⟩ = some (.int .i64 0) := (by rw [hc'.cell, ← ha']; simp); have q1 : wm.cell? ⟨W8.heap.size, j * 4 + 1, none⟩ = some (.int .i64 0) := (by rw [hc'.cell, ← ha']; simp); have q2 : wm.cell? ⟨W8.heap.size, j * 4 + 2, none⟩ = some (.string ⟨#[]⟩) := (by rw [hc'.cell, ← ha']; simp); have q3 : wm.cell? ⟨W8.heap.size, j * 4 + 3, none⟩ = some (.bool false) := (by rw [hc'.cell, ← ha']; simp); have q0f := hc'.fr (j * 4); have q1f := hc'.fr (j * 4 + 1); have q2f := hc'.fr (j * 4 + 2); have q3f := hc'.fr (j * 4 + 3); have HC5 := Lib.hid (hc'.put4 ha' (.int .i64 77) (.int .i64 7) (.string ⟨#[]⟩) (.bool false)); have HB5 := Lib.hid (((((below_step hB.out hBm).setCell (p := ⟨W8.heap.size, j * 4, none⟩) (Nat.le_refl _) (.int .i64 77)).setCell (p := ⟨W8.heap.size, j * 4 + 1, none⟩) (Nat.le_refl _) (.int .i64 7)).setCell (p := ⟨W8.heap.size, j * 4 + 2, none⟩) (Nat.le_refl _) (.string ⟨#[]⟩)).setCell (p := ⟨W8.heap.size, j * 4 + 3, none⟩) (Nat.le_refl _) (.bool false)); have HIN := Lib.hid hin; have HOUT := Lib.hid hout; have HA' := Lib.hid ha'; clear hA hB hBm hc' hin hout ha')
                    generalize (((wm.setCell ⟨W8.heap.size, j * 4, none⟩ (.int .i64 77)).setCell ⟨W8.heap.size, j * 4 + 1, none⟩ (.int .i64 7)).setCell ⟨W8.heap.size, j * 4 + 2, none⟩ (.string ⟨#[]⟩)).setCell ⟨W8.heap.size, j * 4 + 3, none⟩ (.bool false) = W5 at *
                    have hF5 := HF8.out.below HB5.out
                    have b6 := (IBox.cells hF5.box 6).trans rfl
                    clear q0 q1 q2 q3 q0f q1f q2f q3f
                    by_cases hjx : j < x.f1.f2.length
                    · have i7 : (j : Int) < (x.f1.f2.length : Int) := by omega
                      obtain ⟨ad2, e1', f0, f1, f2, f3⟩ := atk67N HR1.out j hjx hjx
                      subst e1'
                      have d3 := pw_cell_below hF5.B HD3.out
                      have f0 := pw_cell_below hF5.B f0
                      have f1 := pw_cell_below hF5.B f1
                      have f2 := pw_cell_below hF5.B f2
                      have f3 := pw_cell_below hF5.B f3
                      have q0 : W5.cell? ⟨W8.heap.size, j * 4, none⟩ = some (.int .i64 77) := by rw [HC5.out.cell, ← HA'.out]; simp
                      have q1 : W5.cell? ⟨W8.heap.size, j * 4 + 1, none⟩ = some (.int .i64 7) := by rw [HC5.out.cell, ← HA'.out]; simp
                      have q2 : W5.cell? ⟨W8.heap.size, j * 4 + 2, none⟩ = some (.string ⟨#[]⟩) := by rw [HC5.out.cell, ← HA'.out]; simp
                      have q3 : W5.cell? ⟨W8.heap.size, j * 4 + 3, none⟩ = some (.bool false) := by rw [HC5.out.cell, ← HA'.out]; simp
                      have q0f := HC5.out.fr (j * 4)
                      have q1f := HC5.out.fr (j * 4 + 1)
                      have q2f := HC5.out.fr (j * 4 + 2)
                      have q3f := HC5.out.fr (j * 4 + 3)
                      have HC6 := Lib.hid (HIN.out hjx _ (HC5.out.put4 HA'.out (.int .i64 x.f1.f2[j].f0) (.int .i64 x.f1.f2[j].f1) (.string x.f1.f2[j].f2) (.bool x.f1.f2[j].f3)))
                      have HB6 := Lib.hid ((((HB5.out.setCell (p := ⟨W8.heap.size, j * 4, none⟩) (Nat.le_refl _) (.int .i64 x.f1.f2[j].f0)).setCell (p := ⟨W8.heap.size, j * 4 + 1, none⟩) (Nat.le_refl _) (.int .i64 x.f1.f2[j].f1)).setCell (p := ⟨W8.heap.size, j * 4 + 2, none⟩) (Nat.le_refl _) (.string x.f1.f2[j].f2)).setCell (p := ⟨W8.heap.size, j * 4 + 3, none⟩) (Nat.le_refl _) (.bool x.f1.f2[j].f3))
                      clear HIN HOUT hF5 HR1
                      generalize x.f1.f2[j] = y at *
                      go_wp2_with fail
                      go_roundw
                      case rel => exact ⟨j + 1, by omega, by go_num, HC6, HB6⟩
                      case measure => simp [intOf]; omega
                    · have i7 : ¬ (j : Int) < (x.f1.f2.length : Int) := by omega
                      go_wp2_with fail
                      go_roundw
                      case rel => exact ⟨j + 1, by omega, by go_num, Lib.hid (HOUT.out (by omega) _ HC5.out), HB5⟩
                      case measure => simp [intOf]; omega
                  · have i6 : ¬ (j : Int) < (q : Int) := by omega
                    obtain rfl : q = j := by omega
                    have hF4 := HF8.out.below hB.out
                    have hD := VaRow.done (show VaRow wr W8.heap.size x.f1.f2 (x.f1.f2.length + 6) by have h1 := hA.out; rwa [HQn.out] at h1)
                    have hle : w.heap.size ≤ W8.heap.size := HF8.out.B.size
                    have hev : SnE w.heap.size wr x [.int .i64 x.f0, .string x.f1.f0, .int .i64 x.f1.f1, .slice (some ⟨W8.heap.size, 0, none⟩) x.f1.f2.length q, .bool x.f2] := ⟨_, hle, by rw [HQn.out], hD⟩
                    have hc6 := HC8.out.below hB.out
                    have p3 : wr.cell? ⟨g6, i * 5 + 3, none⟩ = some (.slice A1 x.f1.f2.length c1) := by rw [hc6.cell, ← HA.out]; simp
                    have p3f := hc6.fr (i * 5 + 3)
                    have hs := cutN Tryz.underlying61 infoV W8.heap.size x.f1.f2.length q (by have := HQn.out; omega)
                    have hK7 := keep_set wr g6 (i * 5 + 3) (.slice (some ⟨W8.heap.size, 0, none⟩) x.f1.f2.length q)
                    have hc6' : Cl wr g6 65 ((a ++ [.int .i64 x.f0, .string x.f1.f0, .int .i64 x.f1.f1]) ++ .slice A1 x.f1.f2.length c1 :: (.bool x.f2 :: r)) := by simpa using hc6
                    have hc7 := hc6'.put1 (o := i * 5 + 3) (by simp [HA.out]) (.slice (some ⟨W8.heap.size, 0, none⟩) x.f1.f2.length q)
                    have hc7' : Cl (wr.setCell ⟨g6, i * 5 + 3, none⟩ (.slice (some ⟨W8.heap.size, 0, none⟩) x.f1.f2.length q)) g6 65 (a ++ ([.int .i64 x.f0, .string x.f1.f0, .int .i64 x.f1.f1, .slice (some ⟨W8.heap.size, 0, none⟩) x.f1.f2.length q, .bool x.f2] ++ r)) := by simpa using hc7
                    have HF9 := Lib.hid (hF4.far hc6 (by decide) HG6.out hK7 (hF4.B.setCell (p := ⟨g6, i * 5 + 3, none⟩) HG6.out _))
                    have HT9 := Lib.hid ((HT8.out.below hB.out).keep hK7 hc6 (by decide) (by decide))
                    have HQ9 := Lib.hid ((HQ8.out.below hB.out).keep hK7 hc6 (by decide))
                    have HN9 := Lib.hid (HEX.out _ _ hc7' ((HK8.out.trans (KeepBut.of_below hB.out g6 none) (.inl rfl)).trans hK7 (.inl rfl)) (hev.keep hK7 hc6 (by decide)))
                    clear hA hB hF4 hD hle hev hc6 hc6' hK7 hc7 hc7'
                    go_wp2_with fail
                    go_roundw
                    case rel => exact ⟨i + 1, by omega, by go_num, HF9, HT9, HQ9, HN9⟩
                    case measure => simp [intOf]; omega
              · have i4 : ¬ (i : Int) < (m.seens.length : Int) := by omega
                go_wp2_with fail
                go_roundw
                case rel => exact ⟨i + 1, by omega, by go_num, HF7, HT7, HQ7, Lib.hid (HM7.out (by omega))⟩
                case measure => simp [intOf]; omega
            · obtain rfl : nN = i := by omega
              have hN2 : SnRow w.heap.size wr g6 m.seens (m.seens.length + 6) := by have h1 := hN.out; rwa [HnN.out] at h1
              have hW : Twn w.heap.size wr m g4 g5 g6 := ⟨hT.out, hQ.out, hN2⟩
              have hF2 := hF.out
              have hs4 := cutN Tryz.underlying27 infoT g4 m.types.length nT (by have := HnT.out; omega)
              have hs5 := cutN Tryz.underlying28 infoQ g5 m.saved.length nQ (by have := HnQ.out; omega)
              have hs6 := cutN Tryz.underlying29 infoS g6 m.seens.length nN (by have := HnN.out; omega)
              have b4 := (IBox.cells hF2.box 4).trans rfl
              have b4f := blk_frozen hF2.box 4
              have HFa := Lib.hid (hF2.s4 (.slice (some ⟨g4, 0, none⟩) m.types.length nT))
              have HWa := Lib.hid (hW.keep (keep_set wr w.heap.size 4 (.slice (some ⟨g4, 0, none⟩) m.types.length nT)) hF2.box)
              clear hF hT hQ hN hN2 hW hF2 hlt b6
              go_upto_region 40 with fail
              generalize wr.setCell ⟨w.heap.size, 4, none⟩ (.slice (some ⟨g4, 0, none⟩) m.types.length nT) = Wb at *
              clear b4 b4f
              have b5 := (IBox.cells HFa.out.box 5).trans rfl
              have b5f := blk_frozen HFa.out.box 5
              have HFb := Lib.hid (HFa.out.s5 (.slice (some ⟨g5, 0, none⟩) m.saved.length nQ))
              have HWb := Lib.hid (HWa.out.keep (keep_set Wb w.heap.size 5 (.slice (some ⟨g5, 0, none⟩) m.saved.length nQ)) HFa.out.box)
              go_upto_region 41 with fail
              generalize Wb.setCell ⟨w.heap.size, 5, none⟩ (.slice (some ⟨g5, 0, none⟩) m.saved.length nQ) = Wc at *
              clear b5 b5f HFa HWa
              have b6 := (IBox.cells HFb.out.box 6).trans rfl
              have b6f := blk_frozen HFb.out.box 6
              have HFc := Lib.hid (HFb.out.s6 (.slice (some ⟨g6, 0, none⟩) m.seens.length nN))
              have HWc := Lib.hid (HWb.out.keep (keep_set Wc w.heap.size 6 (.slice (some ⟨g6, 0, none⟩) m.seens.length nN)) HFb.out.box)
              go_upto_region 42 with fail
              generalize Wc.setCell ⟨w.heap.size, 6, none⟩ (.slice (some ⟨g6, 0, none⟩) m.seens.length nN) = Wd at *
              clear b6 b6f HFb HWb
              have z0 := (IBox.cells HFc.out.box 0).trans rfl
              have z1 := (IBox.cells HFc.out.box 1).trans rfl
              have z2 := (IBox.cells HFc.out.box 2).trans rfl
              have z3 := (IBox.cells HFc.out.box 3).trans rfl
              have z4 := (IBox.cells HFc.out.box 4).trans rfl
              have z5 := (IBox.cells HFc.out.box 5).trans rfl
              have z6 := (IBox.cells HFc.out.box 6).trans rfl
              have y0 := (IBox.cells HFc.out.out 0).trans rfl
              have y1 := (IBox.cells HFc.out.out 1).trans rfl
              have y2 := (IBox.cells HFc.out.out 2).trans rfl
              have y3 := (IBox.cells HFc.out.out 3).trans rfl
              have y4 := (IBox.cells HFc.out.out 4).trans rfl
              have y5 := (IBox.cells HFc.out.out 5).trans rfl
              have y6 := (IBox.cells HFc.out.out 6).trans rfl
              have f0 := blk_frozen HFc.out.out 0
              have f1 := blk_frozen HFc.out.out 1
              have f2 := blk_frozen HFc.out.out 2
              have f3 := blk_frozen HFc.out.out 3
              have f4 := blk_frozen HFc.out.out 4
              have f5 := blk_frozen HFc.out.out 5
              have f6 := blk_frozen HFc.out.out 6
              have hk := ((((((keep_set Wd (w.heap.size + 1) 0 (.int .i64 m.runs)).set_ 1 (.int .i64 m.made)).set_ 2 (.int .i64 m.seq)).set_ 3 (.int .i64 m.now)).set_ 4 (.slice (some ⟨g4, 0, none⟩) m.types.length nT)).set_ 5 (.slice (some ⟨g5, 0, none⟩) m.saved.length nQ)).set_ 6 (.slice (some ⟨g6, 0, none⟩) m.seens.length nN)
              have HWD := Lib.hid (HWc.out.keep hk HFc.out.out)
              have HBD := Lib.hid (below7 HFc.out.B (show w.heap.size ≤ w.heap.size + 1 by omega) (.int .i64 m.runs) (.int .i64 m.made) (.int .i64 m.seq) (.int .i64 m.now) (.slice (some ⟨g4, 0, none⟩) m.types.length nT) (.slice (some ⟨g5, 0, none⟩) m.saved.length nQ) (.slice (some ⟨g6, 0, none⟩) m.seens.length nN))
              have HXD := Lib.hid (IBox.put HFc.out.out m (.slice (some ⟨g4, 0, none⟩) m.types.length nT) (.slice (some ⟨g5, 0, none⟩) m.saved.length nQ) (.slice (some ⟨g6, 0, none⟩) m.seens.length nN))
              clear hk
              go_wp2_with fail
              refine bodyPost_ret (results_cell_row rfl _ _ (w.heap.size + 1) 31 #[.int .i64 m.runs, .int .i64 m.made, .int .i64 m.seq, .int .i64 m.now, .slice (some ⟨g4, 0, none⟩) m.types.length nT, .slice (some ⟨g5, 0, none⟩) m.saved.length nQ, .slice (some ⟨g6, 0, none⟩) m.seens.length nN] (0, 0) _ rfl HXD.out Tryz.underlying31 rfl (by kernel_rfl)) rfl ?_
              refine ⟨g4, g5, g6, ?_, HWD.out, HBD.out⟩
              rw [← HnT.out, ← HnQ.out, ← HnN.out]
end Go.Proofs.YtcfgmkmllcfjjaaGreatDoor
