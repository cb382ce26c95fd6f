import Derived.Test.YtcfgmkmllcfjjaaGreatDoorZAV
set_option linter.unusedVariables false
set_option linter.unusedSimpArgs false
namespace Go.Proofs.YtcfgmkmllcfjjaaGreatDoor
open Go.RowKit Go.Proofs.YtcfgmkmllcfjjaaGreatDoorW.PrintWords Go.Proofs.YtcfgmkmllcfjjaaGreatDoorW.PrintMore PImageAll
theorem cutUp {t e : Nat} {z : Value} {sz by_ : Nat} (ht : Tryz.prog.underlying t = some (.slice e)) (hinfo : (Tryz.prog.info? e).map (fun i => (i.zero, i.size, i.bytes)) = some (some z, sz, by_)) (g n h c : Nat) (hh : h ≤ c) :
    ∀ W, (Instr.slice t (.slice (some ⟨g, 0, none⟩) n c) none (some (.int .i64 (h : Int))) none).run Tryz.prog W = .ok (.slice (some ⟨g, 0, none⟩) h c) W := by
  intro W
  obtain ⟨i0, hi, _⟩ := Option.map_eq_some_iff.1 hinfo
  have hel : Tryz.prog.elem t = e := by simp [Program.elem, ht]
  have hu : Tryz.prog.underlying t = some (.slice (Tryz.prog.elem t)) := by rw [hel]; exact ht
  rw [run_slice_h W t (some ⟨g, 0, none⟩) n c hu .i64 (h : Int) (by omega) (by omega), hel]
  simp [sizeOf, typeInfo, hi, sliced, Result.andThen, add_plain]
theorem cutLH {t e : Nat} {z : Value} {sz by_ : Nat} (ht : Tryz.prog.underlying t = some (.slice e)) (hinfo : (Tryz.prog.info? e).map (fun i => (i.zero, i.size, i.bytes)) = some (some z, sz, by_)) (g n l h c : Nat) (hl : l ≤ h) (hh : h ≤ c) (hlc : l < c) :
    ∀ W, (Instr.slice t (.slice (some ⟨g, 0, none⟩) n c) (some (.int .i64 (l : Int))) (some (.int .i64 (h : Int))) none).run Tryz.prog W = .ok (.slice (some ⟨g, l * sz, none⟩) (h - l) (c - l)) W := by
  intro W
  obtain ⟨i0, hi, hzz⟩ := Option.map_eq_some_iff.1 hinfo
  simp only [Prod.mk.injEq] at hzz
  have hel : Tryz.prog.elem t = e := by simp [Program.elem, ht]
  have hu : Tryz.prog.underlying t = some (.slice (Tryz.prog.elem t)) := by rw [hel]; exact ht
  rw [run_slice_lh W t (some ⟨g, 0, none⟩) n c hu .i64 .i64 (l : Int) (h : Int) (by omega) (by omega) (by omega), hel]
  have hne : c ≠ l := by omega
  simp [sizeOf, typeInfo, hi, hzz, sliced, Result.andThen, add_plain, hne]
structure KF (w : World) (m : Img) (v4 v5 v6 u4 u5 u6 : Value) (W : World) : Prop where
  B : Below w.heap.size w W
  tb : IBox W w.heap.size m v4 v5 v6
  mb : IBox W (w.heap.size + 1) m u4 u5 u6
theorem KF.below {w W W' : World} {m : Img} {v4 v5 v6 u4 u5 u6 : Value} (h : KF w m v4 v5 v6 u4 u5 u6 W) (hB : Below W.heap.size W W') : KF w m v4 v5 v6 u4 u5 u6 W' :=
  ⟨below_step h.B hB, blk_below h.tb hB, blk_below h.mb hB⟩
theorem TyRow.mark {base : Nat} {W : World} {g : Nat} {xs : List S56} (h : TyRow base W g xs (xs.length + 6)) (hm : xs.length ≤ 1000000000000) (i : Nat) (hi : i < 6) : Kd.C k56 W (some ⟨g, (xs.length + i) * 2, none⟩) 1 [mkTy] := by
  obtain ⟨_, d, h2, h3⟩ := h
  rw [List.take_of_length_le (by omega)] at h2
  rw [Nat.sub_self, zr_zero, List.append_nil, show xs.length + 6 - xs.length = 6 by omega] at h3
  refine ⟨rfl, by decide, fun _ => ⟨_, rfl, fun j p hj => ⟨mkT, rfl, ?_, fun k u hu => ?_⟩⟩⟩
  · have : j = 0 := by have := (List.getElem?_eq_some_iff.1 hj).1; simp at this; exact this
    subst this
    injection hj with hj
    subst hj
    exact k56_mk W mkTy (A1 := none) (c1 := 0) (Nat.le_refl _) (Kd.C_nil _ _)
  · have : j = 0 := by have := (List.getElem?_eq_some_iff.1 hj).1; simp at this; exact this
    subst this
    have hl := h2.1
    have hk : k < 2 := (List.getElem?_eq_some_iff.1 hu).1
    have hcell := h3.cell ((xs.length + i) * 2 + k)
    rw [List.getElem?_append_right (by omega), show (xs.length + i) * 2 + k - d.length = i * 2 + k by omega] at hcell
    have hadd : (⟨g, (xs.length + i) * 2, none⟩ : Addr).add (0 * k56.sz + k) = ⟨g, (xs.length + i) * 2 + k, none⟩ := by
      have := add_plain g ((xs.length + i) * 2 + k)
      unfold Addr.add
      split <;> simp_all
    rw [hadd, hcell, ← hu]
    match i, hi, k, hk with
    | 0, _, 0, _ => rfl
    | 0, _, 1, _ => rfl
    | 1, _, 0, _ => rfl
    | 1, _, 1, _ => rfl
    | 2, _, 0, _ => rfl
    | 2, _, 1, _ => rfl
    | 3, _, 0, _ => rfl
    | 3, _, 1, _ => rfl
    | 4, _, 0, _ => rfl
    | 4, _, 1, _ => rfl
    | 5, _, 0, _ => rfl
    | 5, _, 1, _ => rfl
theorem SnRow.mark {base : Nat} {W : World} {g : Nat} {xs : List S65} (h : SnRow base W g xs (xs.length + 6)) (i : Nat) (hi : i < 6) :
    W.cell? ⟨g, (xs.length + i) * 5, none⟩ = some (.int .i64 (-77)) ∧ W.cell? ⟨g, (xs.length + i) * 5 + 1, none⟩ = some (.string ⟨#[]⟩) ∧ W.cell? ⟨g, (xs.length + i) * 5 + 2, none⟩ = some (.int .i64 0) ∧ W.cell? ⟨g, (xs.length + i) * 5 + 3, none⟩ = some (.slice none 0 0) ∧ W.cell? ⟨g, (xs.length + i) * 5 + 4, none⟩ = some (.bool false) := by
  obtain ⟨_, d, h2, h3⟩ := h
  rw [List.take_of_length_le (by omega)] at h2
  rw [Nat.sub_self, zr_zero, List.append_nil, show xs.length + 6 - xs.length = 6 by omega] at h3
  have hl := h2.1
  have key : ∀ k, W.cell? ⟨g, (xs.length + i) * 5 + k, none⟩ = (List.replicate 6 mkS).flatten[i * 5 + k]? := by
    intro k
    rw [h3.cell, List.getElem?_append_right (by omega), show (xs.length + i) * 5 + k - d.length = i * 5 + k by omega]
  refine ⟨(key 0).trans ?_, (key 1).trans ?_, (key 2).trans ?_, (key 3).trans ?_, (key 4).trans ?_⟩ <;>
  match i, hi with
  | 0, _ => rfl
  | 1, _ => rfl
  | 2, _ => rfl
  | 3, _ => rfl
  | 4, _ => rfl
  | 5, _ => rfl
theorem SvRow.mark {base : Nat} {W : World} {g : Nat} {xs : List S60} (h : SvRow base W g xs (xs.length + 6)) (i : Nat) (hi : i < 6) :
    W.cell? ⟨g, (xs.length + i) * 4, none⟩ = some (.string mk4) ∧ W.cell? ⟨g, (xs.length + i) * 4 + 1, none⟩ = some (.string ⟨#[]⟩) ∧ W.cell? ⟨g, (xs.length + i) * 4 + 2, none⟩ = some (.int .i64 0) ∧ W.cell? ⟨g, (xs.length + i) * 4 + 3, none⟩ = some (.bool false) := by
  have h3 := h.done
  rw [List.flatMap_append] at h3
  have hl := flatC_len svC 4 (fun _ => rfl) xs
  have key : ∀ k, W.cell? ⟨g, (xs.length + i) * 4 + k, none⟩ = ((List.replicate 6 mkQ).flatMap svC)[i * 4 + k]? := by
    intro k
    rw [h3.cell, List.getElem?_append_right (by omega), show (xs.length + i) * 4 + k - (xs.flatMap svC).length = i * 4 + k by omega]
  refine ⟨(key 0).trans ?_, (key 1).trans ?_, (key 2).trans ?_, (key 3).trans ?_⟩ <;>
  match i, hi with
  | 0, _ => rfl
  | 1, _ => rfl
  | 2, _ => rfl
  | 3, _ => rfl
  | 4, _ => rfl
  | 5, _ => rfl
theorem at_mark {W : World} {A : Option Addr} {xs : List S58} (h : Kd.C k58 W A (xs ++ List.replicate 6 mkA).length (xs ++ List.replicate 6 mkA)) (j : Nat) (h1 : xs.length ≤ j) (h2 : j < xs.length + 6) :
    ∃ ad, A = some ad ∧ W.cell? (ad.add (j * 2)) = some (.string mk4) ∧ W.cell? ⟨(ad.add (j * 2)).block, (ad.add (j * 2)).off + 1, none⟩ = some (.int .i64 77) := by
  have := atk58N h j (by simp; omega) (by simp; omega)
  rw [List.getElem_append_right h1, List.getElem_replicate] at this
  exact this
theorem va_mark {W : World} {A : Option Addr} {xs : List S67} (h : Kd.C k67 W A (xs ++ List.replicate 6 mkV).length (xs ++ List.replicate 6 mkV)) (j : Nat) (h1 : xs.length ≤ j) (h2 : j < xs.length + 6) :
    ∃ ad, A = some ad ∧ W.cell? (ad.add (j * 4)) = some (.int .i64 77) ∧ W.cell? ⟨(ad.add (j * 4)).block, (ad.add (j * 4)).off + 1, none⟩ = some (.int .i64 7) ∧ W.cell? ⟨(ad.add (j * 4)).block, (ad.add (j * 4)).off + 2, none⟩ = some (.string ⟨#[]⟩) ∧ W.cell? ⟨(ad.add (j * 4)).block, (ad.add (j * 4)).off + 3, none⟩ = some (.bool false) := by
  have := atk67N h j (by simp; omega) (by simp; omega)
  rw [List.getElem_append_right h1, List.getElem_replicate] at this
  exact this
theorem mkTy_new (W : World) : Kd.C k56 (W.alloc (.cells #[.string mk4, .slice none 0 0] 56)) (some ⟨W.heap.size, 0, none⟩) 1 [mkTy] :=
  Cl.reads (k := k56) (e := 56) (cs := mkT) (r := []) (ps := [mkTy]) (blk_new W (.cells #[.string mk4, .slice none 0 0] 56)) (Reps.front (k56_mk _ mkTy (A1 := none) (c1 := 0) (Nat.le_refl _) (Kd.C_nil _ _)) rfl (Reps.none _ _) rfl) (by decide)
theorem mkSn_new (W : World) : Kd.C k65 (W.alloc (.cells #[.int .i64 (-77), .string ⟨#[]⟩, .int .i64 0, .slice none 0 0, .bool false] 65)) (some ⟨W.heap.size, 0, none⟩) 1 [mkSn] :=
  Cl.reads (k := k65) (e := 65) (cs := mkS) (r := []) (ps := [mkSn]) (blk_new W (.cells #[.int .i64 (-77), .string ⟨#[]⟩, .int .i64 0, .slice none 0 0, .bool false] 65)) (Reps.front (k65_mk _ mkSn (A3 := none) (c3 := 0) (Nat.le_refl _) (Kd.C_nil _ _)) rfl (Reps.none _ _) rfl) (by decide)
theorem mkTy_any (W : World) {A : Option Addr} {c : Nat} (h : Kd.C k56 W A 1 [mkTy]) :
    Calls Tryz.prog 28 #[.slice A 1 c, .slice (some ⟨W.heap.size, 0, none⟩) 1 1] (W.alloc (.cells #[.string mk4, .slice none 0 0] 56)) fun e w' => e = .returned (.bool true) ∧ Below W.heap.size W w' := by
  refine (typesEq_any (l := [mkTy]) (by decide) (fun x hx => ?_) (Kd.C_below h (below_new W _)) (mkTy_new W)).mono ?_
  · rw [List.mem_singleton] at hx
    subst hx
    decide
  · rintro e w' ⟨h1, h2⟩
    exact ⟨h1, below_step (below_new W _) h2⟩
theorem mkSn_any (W : World) :
    Calls Tryz.prog 29 #[.slice (some ⟨W.heap.size, 0, none⟩) 1 1, .slice (some ⟨W.heap.size + 1, 0, none⟩) 1 1] ((W.alloc (.cells #[.int .i64 (-77), .string ⟨#[]⟩, .int .i64 0, .slice none 0 0, .bool false] 65)).alloc (.cells #[.int .i64 (-77), .string ⟨#[]⟩, .int .i64 0, .slice none 0 0, .bool false] 65)) fun e w' => e = .returned (.bool true) ∧ Below W.heap.size W w' := by
  have h2 := mkSn_new (W.alloc (.cells #[.int .i64 (-77), .string ⟨#[]⟩, .int .i64 0, .slice none 0 0, .bool false] 65))
  rw [show (W.alloc (.cells #[.int .i64 (-77), .string ⟨#[]⟩, .int .i64 0, .slice none 0 0, .bool false] 65)).heap.size = W.heap.size + 1 by simp] at h2
  have hb := below_new (W.alloc (.cells #[.int .i64 (-77), .string ⟨#[]⟩, .int .i64 0, .slice none 0 0, .bool false] 65)) (.cells #[.int .i64 (-77), .string ⟨#[]⟩, .int .i64 0, .slice none 0 0, .bool false] 65)
  refine (eventsEq_any (l := [mkSn]) (by decide) (fun x hx => ?_) (Kd.C_below (mkSn_new W) hb) h2).mono ?_
  · rw [List.mem_singleton] at hx
    subst hx
    decide
  · rintro e w' ⟨h1, h2⟩
    exact ⟨h1, below_step (below_step (below_new W _) hb) h2⟩
attribute [local go_sem high] PImageAll.eqA58 PImageAll.eqA60 PImageAll.eqA67
set_option maxRecDepth 100000 in
set_option maxHeartbeats 8000000 in
theorem kept_any' {w : World} {m : Img} {base g4 g5 g6 : Nat} {A4 A5 A6 : Option Addr} {c4 c5 c6 nT nQ nN : Nat} (hL : ImgL m) (hIB : ImgB m) (hT : Twn base w m g4 g5 g6) (hV : ImgV w m A4 c4 A5 c5 A6 c6) (hnT : nT = m.types.length + 6) (hnQ : nQ = m.saved.length + 6) (hnN : nN = m.seens.length + 6) :
    Calls Tryz.prog 10 #[imgV m (.slice (some ⟨g4, 0, none⟩) m.types.length nT) (.slice (some ⟨g5, 0, none⟩) m.saved.length nQ) (.slice (some ⟨g6, 0, none⟩) m.seens.length nN), imgV m (.slice A4 m.types.length c4) (.slice A5 m.saved.length c5) (.slice A6 m.seens.length c6)] w fun e w' => e = .returned (.bool true) ∧ Below w.heap.size w w' := by
  have HIM := Lib.hid (fun (W : World) (hW : Below w.heap.size w W) => images_any hIB (show ImgV W m (some ⟨g4, 0, none⟩) nT (some ⟨g5, 0, none⟩) nQ (some ⟨g6, 0, none⟩) nN by rw [hnT, hnQ, hnN]; exact (hT.reads hL).below hW) (hV.below hW))
  unfold imgV at *
  generalize hW0 : (w.alloc (.cells #[.int .i64 m.runs, .int .i64 m.made, .int .i64 m.seq, .int .i64 m.now, .slice (some ⟨g4, 0, none⟩) m.types.length nT, .slice (some ⟨g5, 0, none⟩) m.saved.length nQ, .slice (some ⟨g6, 0, none⟩) m.seens.length nN] 31)) = Wa
  generalize hW1 : (Wa.alloc (.cells #[.int .i64 m.runs, .int .i64 m.made, .int .i64 m.seq, .int .i64 m.now, .slice A4 m.types.length c4, .slice A5 m.saved.length c5, .slice A6 m.seens.length c6] 31)) = W1
  have sa : Wa.heap.size = w.heap.size + 1 := by rw [← hW0]; simp
  have HW0 := Lib.hid hW0
  have HW1 := Lib.hid hW1
  have ha : Below w.heap.size w Wa := by rw [← hW0]; exact below_new w _
  have hb : Below Wa.heap.size Wa W1 := by rw [← hW1]; exact below_new Wa _
  have HF : Hid (KF w m (.slice (some ⟨g4, 0, none⟩) m.types.length nT) (.slice (some ⟨g5, 0, none⟩) m.saved.length nQ) (.slice (some ⟨g6, 0, none⟩) m.seens.length nN) (.slice A4 m.types.length c4) (.slice A5 m.saved.length c5) (.slice A6 m.seens.length c6) W1) := Lib.hid ⟨below_step ha hb, blk_below (by rw [← hW0]; exact blk_new w _) hb, by rw [← sa, ← hW1]; exact blk_new Wa _⟩
  have HT := Lib.hid hT
  have HL := Lib.hid hL
  have wT : IntKind.i64.wrap ((m.types.length : Int) + 6) = (nT : Int) := by rw [hnT]; exact wrap6 hL.t
  have wQ : IntKind.i64.wrap ((m.saved.length : Int) + 6) = (nQ : Int) := by rw [hnQ]; exact wrap6 hL.q
  have wN : IntKind.i64.wrap ((m.seens.length : Int) + 6) = (nN : Int) := by rw [hnN]; exact wrap6 hL.s
  have sT := cutUp Tryz.underlying27 infoT g4 m.types.length nT nT (Nat.le_refl _)
  have sQ := cutUp Tryz.underlying28 infoQ g5 m.saved.length nQ nQ (Nat.le_refl _)
  have sN := cutUp Tryz.underlying29 infoS g6 m.seens.length nN nN (Nat.le_refl _)
  have HnT := Lib.hid hnT
  have HnQ := Lib.hid hnQ
  have HnN := Lib.hid hnN
  have b4 := (IBox.cells HF.out.tb 4).trans rfl
  have b5 := (IBox.cells HF.out.tb 5).trans rfl
  have b6 := (IBox.cells HF.out.tb 6).trans rfl
  have b0 := (IBox.cells HF.out.tb 0).trans rfl
  have b1 := (IBox.cells HF.out.tb 1).trans rfl
  have b2 := (IBox.cells HF.out.tb 2).trans rfl
  have b3 := (IBox.cells HF.out.tb 3).trans rfl
  have e4 := (IBox.cells HF.out.mb 4).trans rfl
  have e5 := (IBox.cells HF.out.mb 5).trans rfl
  have e6 := (IBox.cells HF.out.mb 6).trans rfl
  have e0 := (IBox.cells HF.out.mb 0).trans rfl
  have e1 := (IBox.cells HF.out.mb 1).trans rfl
  have e2 := (IBox.cells HF.out.mb 2).trans rfl
  have e3 := (IBox.cells HF.out.mb 3).trans rfl
  clear hW0 hW1 sa ha hb hT hV hL hnT hnQ hnN hIB
  go_enter Tryz.func10, Tryz.ntmps10
  go_upto_region 1 with fail
  rw [HW0.out, HW1.out]
  go_quiet (fail)
  go_upto_region 5 with (go_at_call 14; refine (HIM.out _ (pw_below_drewN HF.out.B nq)).mono ?_; rintro e w2 ⟨rfl, hB2⟩; have hF2 := HF.out.below (below_step (pw_below_drewN (Below.refl _ _) nq) hB2); clear b4 b5 b6; have b4 := (IBox.cells hF2.tb 4).trans rfl; have b5 := (IBox.cells hF2.tb 5).trans rfl; have b6 := (IBox.cells hF2.tb 6).trans rfl; have HF2 := Lib.hid hF2; clear hF2 hB2)
  clear b0 b1 b2 b3 b4 b5 b6 e0 e1 e2 e3 e4 e5 e6 HIM HF HW0 HW1
  go_loopw [8] (fun t8 wr => ∃ i : Nat, i ≤ 6 ∧ t8 = .int .i64 i ∧ Hid (KF w m (.slice (some ⟨g4, 0, none⟩) m.types.length nT) (.slice (some ⟨g5, 0, none⟩) m.saved.length nQ) (.slice (some ⟨g6, 0, none⟩) m.seens.length nN) (.slice A4 m.types.length c4) (.slice A5 m.saved.length c5) (.slice A6 m.seens.length c6) wr)) (fun t8 _ => 6 - (intOf t8).toNat)
  case atStart => exact ⟨0, by omega, rfl, HF2⟩
  case round =>
    obtain ⟨i, hi, rfl, hF⟩ := hrel
    have b4 := (IBox.cells hF.out.tb 4).trans rfl
    have b5 := (IBox.cells hF.out.tb 5).trans rfl
    have b6 := (IBox.cells hF.out.tb 6).trans rfl
    by_cases hlt : i < 6
    · have i1 : (0 : Int) ≤ (i : Int) := by omega
      have i2 : (i : Int) < 6 := by omega
      have hW := HT.out.below hF.out.B
      obtain ⟨m0, m1, m2, m3, m4⟩ := SnRow.mark hW.sn i hlt
      have x1 : (m.seens.length : Int) + (i : Int) < (nN : Int) := by have := HnN.out; omega
      have x0 : (0 : Int) ≤ (m.seens.length : Int) + (i : Int) := by omega
      have wx : IntKind.i64.wrap ((m.seens.length : Int) + (i : Int)) = (m.seens.length : Int) + (i : Int) := by rw [IntKind.wrap_i64]; have := HL.out.s; omega
      clear hW
      go_upto_region 8 with fail
      have hbx := below_new wr (.cells #[.int .i64 (-77), .string ⟨#[]⟩, .int .i64 0, .slice none 0 0, .bool false] 65)
      have HX := Lib.hid (blk_new wr (.cells #[.int .i64 (-77), .string ⟨#[]⟩, .int .i64 0, .slice none 0 0, .bool false] 65))
      have HFX := Lib.hid (hF.out.below hbx)
      clear b4 b5 b6 m0 m1 m2 m3 m4 x0 x1 wx hbx
      generalize wr.alloc (.cells #[.int .i64 (-77), .string ⟨#[]⟩, .int .i64 0, .slice none 0 0, .bool false] 65) = Wx at *
      have b4 := (IBox.cells HFX.out.tb 4).trans rfl
      have hW := HT.out.below HFX.out.B
      have hMT := TyRow.mark hW.ty HL.out.t i hlt
      have HMT := Lib.hid (mkTy_any Wx (c := nT - (m.types.length + i)) hMT)
      have sT2 := cutLH Tryz.underlying27 infoT g4 nT (m.types.length + i) (m.types.length + i + 1) nT (by omega) (by have := HnT.out; omega) (by have := HnT.out; omega)
      rw [show m.types.length + i + 1 - (m.types.length + i) = 1 by omega] at sT2
      simp only [Int.natCast_add, Int.cast_ofNat_Int] at sT2
      have wt : IntKind.i64.wrap ((m.types.length : Int) + (i : Int)) = (m.types.length : Int) + (i : Int) := by rw [IntKind.wrap_i64]; have := HL.out.t; omega
      have wt1 : IntKind.i64.wrap ((m.types.length : Int) + (i : Int) + 1) = (m.types.length : Int) + (i : Int) + 1 := by rw [IntKind.wrap_i64]; have := HL.out.t; omega
      have wq : IntKind.i64.wrap ((m.saved.length : Int) + (i : Int)) = (m.saved.length : Int) + (i : Int) := by rw [IntKind.wrap_i64]; have := HL.out.q; omega
      have q1 : (m.saved.length : Int) + (i : Int) < (nQ : Int) := by have := HnQ.out; omega
      have q0 : (0 : Int) ≤ (m.saved.length : Int) + (i : Int) := by omega
      clear hW hMT
      go_wp2_with (first | (go_at_call 28; refine HMT.out.mono ?_; rintro e wt ⟨rfl, hBt⟩; have hFt := HFX.out.below hBt; clear b4; have b5 := (IBox.cells hFt.tb 5).trans rfl; obtain ⟨r0, r1, r2, r3⟩ := SvRow.mark (HT.out.below hFt.B).sv i hlt; have hx := blk_below HX.out hBt; have y0 := (blk_cell hx 0).trans rfl; have y1 := (blk_cell hx 1).trans rfl; have y2 := (blk_cell hx 2).trans rfl; have y3 := (blk_cell hx 3).trans rfl; have y4 := (blk_cell hx 4).trans rfl; have HMN := Lib.hid (mkSn_any wt); have HFT := Lib.hid hFt; clear hFt hx hBt) | (go_at_call 29; refine HMN.out.mono ?_; rintro e wu ⟨rfl, hBu⟩; have HFU := Lib.hid (HFT.out.below hBu)))
      go_roundw
      case rel => exact ⟨i + 1, by omega, by go_num, HFU⟩
      case measure => simp [intOf]; omega
    · have i2 : ¬ (i : Int) < 6 := by omega
      obtain ⟨i8, hi8⟩ : ∃ n : Nat, n = i := ⟨_, rfl⟩
      rw [← hi8] at i2 ⊢
      clear hi8 hi
      clear b4 b5 b6 HF2 sN sQ sT
      go_upto_region 11 with fail
      have HF3 := hF
      clear hF hlt i2
      go_loopw [10] (fun t10 wr => ∃ i : Nat, i ≤ m.types.length ∧ t10 = .int .i64 i ∧ Hid (KF w m (.slice (some ⟨g4, 0, none⟩) m.types.length nT) (.slice (some ⟨g5, 0, none⟩) m.saved.length nQ) (.slice (some ⟨g6, 0, none⟩) m.seens.length nN) (.slice A4 m.types.length c4) (.slice A5 m.saved.length c5) (.slice A6 m.seens.length c6) wr)) (fun t10 _ => m.types.length - (intOf t10).toNat)
      case atStart => exact ⟨0, by omega, rfl, HF3⟩
      case round =>
        obtain ⟨i, hi, rfl, hF⟩ := hrel
        have hnb := HL.out.t
        by_cases hlt : i < m.types.length
        · have i1 : (0 : Int) ≤ (i : Int) := by omega
          have i2 : (i : Int) < (m.types.length : Int) := by omega
          have i3 : (i : Int) < (nT : Int) := by have := HnT.out; omega
          have b4 := (IBox.cells hF.out.tb 4).trans rfl
          have hla := HL.out.a _ (List.getElem_mem hlt)
          obtain ⟨ga, _, p1, hC⟩ := TyRow.at_ HT.out.ty i hlt hla
          obtain ⟨nA, hnA⟩ : ∃ n, n = m.types[i].f1.length + 6 := ⟨_, rfl⟩
          rw [← hnA] at p1
          have wA : IntKind.i64.wrap ((m.types[i].f1.length : Int) + 6) = (nA : Int) := by rw [hnA]; exact wrap6 hla
          generalize m.types[i] = x at *
          have sA := cutUp Tryz.underlying54 infoA ga x.f1.length nA nA (Nat.le_refl _)
          have HC := Lib.hid hC
          have HNA := Lib.hid hnA
          have hAb : nA ≤ 2000000000000 := by omega
          have p1 := pw_cell_below hF.out.B p1
          clear hC hnA hla HF3
          go_upto_region 15 with fail
          have HF4 := hF
          clear hF b4 p1
          go_loopw [12] (fun t12 wr => ∃ j : Nat, x.f1.length ≤ j ∧ j ≤ nA ∧ t12 = .int .i64 j ∧ Hid (KF w m (.slice (some ⟨g4, 0, none⟩) m.types.length nT) (.slice (some ⟨g5, 0, none⟩) m.saved.length nQ) (.slice (some ⟨g6, 0, none⟩) m.seens.length nN) (.slice A4 m.types.length c4) (.slice A5 m.saved.length c5) (.slice A6 m.seens.length c6) wr)) (fun t12 _ => nA - (intOf t12).toNat)
          case atStart => exact ⟨x.f1.length, by omega, by have := HNA.out; omega, rfl, HF4⟩
          case round =>
            obtain ⟨j, hj1, hj2, rfl, hF⟩ := hrel
            by_cases hjn : j < nA
            · have j1 : (0 : Int) ≤ (j : Int) := by omega
              have j2 : (j : Int) < (nA : Int) := by omega
              obtain ⟨ad, e, f0, f1⟩ := at_mark HC.out j hj1 (by have := HNA.out; omega)
              injection e with e
              subst e
              have f0 := pw_cell_below hF.out.B f0
              have f1 := pw_cell_below hF.out.B f1
              rw [add_plain] at f0 f1
              go_wp2_with fail
              go_roundw
              case rel => exact ⟨j + 1, by omega, by omega, by go_num, hF⟩
              case measure => simp [intOf]; omega
            · have j2 : ¬ (j : Int) < (nA : Int) := by omega
              go_wp2_with fail
              go_roundw
              case rel => exact ⟨i + 1, by omega, by go_num, hF⟩
              case measure => simp [intOf]; omega
        · obtain rfl : i = m.types.length := by omega
          go_upto_region 20 with fail
          have HF4 := hF
          clear hF hlt HF3
          go_loopw [13] (fun t13 wr => ∃ i : Nat, i ≤ m.seens.length ∧ t13 = .int .i64 i ∧ Hid (KF w m (.slice (some ⟨g4, 0, none⟩) m.types.length nT) (.slice (some ⟨g5, 0, none⟩) m.saved.length nQ) (.slice (some ⟨g6, 0, none⟩) m.seens.length nN) (.slice A4 m.types.length c4) (.slice A5 m.saved.length c5) (.slice A6 m.seens.length c6) wr)) (fun t13 _ => m.seens.length - (intOf t13).toNat)
          case atStart => exact ⟨0, by omega, rfl, HF4⟩
          case round =>
            obtain ⟨i, hi, rfl, hF⟩ := hrel
            have hnb := HL.out.s
            by_cases hlt : i < m.seens.length
            · have i1 : (0 : Int) ≤ (i : Int) := by omega
              have i2 : (i : Int) < (m.seens.length : Int) := by omega
              have i3 : (i : Int) < (nN : Int) := by have := HnN.out; omega
              have b6 := (IBox.cells hF.out.tb 6).trans rfl
              have hla := HL.out.v _ (List.getElem_mem hlt)
              obtain ⟨ga, _, p3, hC⟩ := SnRow.at_ HT.out.sn i hlt hla
              obtain ⟨nA, hnA⟩ : ∃ n, n = m.seens[i].f1.f2.length + 6 := ⟨_, rfl⟩
              rw [← hnA] at p3
              have wA : IntKind.i64.wrap ((m.seens[i].f1.f2.length : Int) + 6) = (nA : Int) := by rw [hnA]; exact wrap6 hla
              generalize m.seens[i] = x at *
              have sA := cutUp Tryz.underlying61 infoV ga x.f1.f2.length nA nA (Nat.le_refl _)
              have HC := Lib.hid hC
              have HNA := Lib.hid hnA
              have hAb : nA ≤ 2000000000000 := by omega
              have p3 := pw_cell_below hF.out.B p3
              clear hC hnA hla HF4
              go_upto_region 24 with fail
              have HF5 := hF
              clear hF b6 p3
              go_loopw [15] (fun t15 wr => ∃ j : Nat, x.f1.f2.length ≤ j ∧ j ≤ nA ∧ t15 = .int .i64 j ∧ Hid (KF w m (.slice (some ⟨g4, 0, none⟩) m.types.length nT) (.slice (some ⟨g5, 0, none⟩) m.saved.length nQ) (.slice (some ⟨g6, 0, none⟩) m.seens.length nN) (.slice A4 m.types.length c4) (.slice A5 m.saved.length c5) (.slice A6 m.seens.length c6) wr)) (fun t15 _ => nA - (intOf t15).toNat)
              case atStart => exact ⟨x.f1.f2.length, by omega, by have := HNA.out; omega, rfl, HF5⟩
              case round =>
                obtain ⟨j, hj1, hj2, rfl, hF⟩ := hrel
                by_cases hjn : j < nA
                · have j1 : (0 : Int) ≤ (j : Int) := by omega
                  have j2 : (j : Int) < (nA : Int) := by omega
                  obtain ⟨ad, e, f0, f1, f2, f3⟩ := va_mark HC.out j hj1 (by have := HNA.out; omega)
                  injection e with e
                  subst e
                  have f0 := pw_cell_below hF.out.B f0
                  have f1 := pw_cell_below hF.out.B f1
                  have f2 := pw_cell_below hF.out.B f2
                  have f3 := pw_cell_below hF.out.B f3
                  rw [add_plain] at f0 f1 f2 f3
                  have HKeep := Lib.hid (show ∀ w', Below wr.heap.size wr w' → w'.cell? ⟨ga, j * 4, none⟩ = some (.int .i64 77) ∧ w'.cell? ⟨ga, j * 4 + 1, none⟩ = some (.int .i64 7) ∧ w'.cell? ⟨ga, j * 4 + 2, none⟩ = some (.string ⟨#[]⟩) ∧ w'.cell? ⟨ga, j * 4 + 3, none⟩ = some (.bool false) from fun w' hb => ⟨pw_cell_below hb f0, pw_cell_below hb f1, pw_cell_below hb f2, pw_cell_below hb f3⟩)
                  go_wp2_with fail
                  go_region_held3 (fun w' => w'.cell? ⟨ga, j * 4, none⟩ = some (.int .i64 77) ∧ w'.cell? ⟨ga, j * 4 + 1, none⟩ = some (.int .i64 7) ∧ w'.cell? ⟨ga, j * 4 + 2, none⟩ = some (.string ⟨#[]⟩) ∧ w'.cell? ⟨ga, j * 4 + 3, none⟩ = some (.bool false)) (first | exact HKeep.out _ (Below.refl _ _) | exact HKeep.out _ (below_drew (Below.refl _ _)) | exact HKeep.out _ (by assumption) | exact HKeep.out _ (below_drew (by assumption))) ((go_at_call 21; refine (mark_any _).mono ?_; rintro e w5 ⟨rfl, hb5⟩; have hbk : Below wr.heap.size wr w5 := (by first | exact below_step (below_drew (Below.refl _ _)) hb5 | exact hb5)))
                  have HF6 := Lib.hid (hF.out.below hbk)
                  go_wp2_with fail
                  go_roundw
                  case rel => exact ⟨j + 1, by omega, by omega, by go_num, HF6⟩
                  case measure => simp [intOf]; omega
                · have j2 : ¬ (j : Int) < (nA : Int) := by omega
                  go_wp2_with fail
                  go_roundw
                  case rel => exact ⟨i + 1, by omega, by go_num, hF⟩
                  case measure => simp [intOf]; omega
            · obtain rfl : i = m.seens.length := by omega
              go_wp2_with fail
              go_ret
              exact ⟨rfl, hF.out.B⟩
end Go.Proofs.YtcfgmkmllcfjjaaGreatDoor
