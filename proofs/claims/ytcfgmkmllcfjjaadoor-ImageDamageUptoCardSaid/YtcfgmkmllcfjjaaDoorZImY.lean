import Derived.Test.YtcfgmkmllcfjjaaDoorZImX
set_option linter.unusedVariables false
set_option linter.unusedSimpArgs false
namespace Go.Proofs.YtcfgmkmllcfjjaaDoor
open Go.RowKit Go.Proofs.YtcfgmkmllcfjjaaDoorW.PrintWords Go.Proofs.YtcfgmkmllcfjjaaDoorW.PrintMore PImageForm
def EPost (w0 w : World) (g : Nat) (l : List Int) (x : S69) (s : Ws) (e : Ending) (w' : World) : Prop :=
  ∃ v, e = .returned (.agg #[.string x.f0, .int .i64 x.f1, v]) ∧ k66.R 66 w' w.heap.size (fun _ => True) v x.f2 ∧ WRAt w0 w' g l s ∧ Ro g w w'
theorem EvS.drew {w0 w W : World} {g b2 b3 : Nat} {l : List Int} {s : Ws} {t : ByteArray} {n : Int} {xs : List S66} {v : Value} (h : EvS w0 w g l b2 b3 s t n xs W v) : EvS w0 w g l b2 b3 s t n xs W.drew v := h.read (h.rd.below (below_drew (Below.refl _ _))) Ro.refl.drew
section
variable {ops : Array Oper} {o : Oper} {a : Act} {Q : Exit → Act → World → Prop}
theorem vstep {w0 w W : World} {K : Act → World → Prop} {E : Prop} {g b2 b3 : Nat} {l : List Int} {sk : Ws} {t : ByteArray} {n : Int} {xs : List S66} {v : Value} (hgd : o.guard = none) (s x : Operand)
    (ho : o.op = .call { callee := .builtin .append, args := #[s, x], argTypes := #[67, 67] }) (hE : EvS w0 w g l b2 b3 sk t n xs W v) (p : S66)
    (hs : a.eval s = v) (hx : a.eval x = .slice (some ⟨W.heap.size, 0, none⟩) 1 1) (hl : xs.length ≤ 1000000)
    (h : ∀ A1 n1 c1 w1, w1.cell? ⟨b3, 2, none⟩ = some v → w1.frozen? ⟨b3, 2, none⟩ = false → Hid (EvS w0 w g l b2 b3 sk t n (xs ++ [p]) (w1.setCell ⟨b3, 2, none⟩ (.slice A1 n1 c1)) (.slice A1 n1 c1)) → K (a.put o.dst (.slice A1 n1 c1)) w1) :
    if Region.wanted o (yielded ops a.tmps) = true then Oper.wp Tryd.prog o a (W.alloc (.cells #[.int .i64 p.f0, .int .i64 p.f1, .string p.f2, .bool p.f3] 66)) K Q else E := by
  have hw : Region.wanted o (yielded ops a.tmps) = true := by simp [Region.wanted, hgd]
  have hlo : w.heap.size ≤ W.heap.size := hE.ro.size
  have hbl : w0.heap.size ≤ W.heap.size := Nat.le_trans hE.lo hlo
  have key := Kd.R_append_step (P := Tryd.prog) (ops := ops) (o := o) (a := a) (Q := Q) (Kc := K) k66 (w0 := W) (W := W) w.heap.size hw s x 67 66 _ 40 ho Tryd.underlying67 info66 rfl (by decide) (by decide) v xs p _ (fun _ => True) (fun k => some k ≠ v.ownBlock) hs hx (k66_mkM W w.heap.size _ p) (fun k hk => ⟨trivial, hk⟩) (fun _ _ => trivial) hE.row (Below.refl _ _) hlo (by omega) ?_
  · rw [if_pos hw] at key ⊢
    exact key
  · intro v1 w1 hR1 _ hg1 _
    obtain ⟨A1, c1, rfl⟩ := Kd.R_slice hR1
    have n3 : some b3 ≠ v.ownBlock := Kd.R_ne hE.row hE.ev (by decide)
    have ev1 : EBox w1 b3 t n v := blk_grown hE.ev hg1 n3
    exact h A1 _ c1 w1 ev1.cells.2.2 ev1.free.2.2 (Lib.hid (hE.grow hR1 hg1))
end
set_option maxRecDepth 100000 in
set_option maxHeartbeats 8000000 in
theorem event_any {w0 w : World} {g : Nat} {l : List Int} {s : Ws} (hG : GW w0) (hR : WRAt w0 w g l s) (hl : Bytes l) (hm : l.length ≤ 4611686018427387904) :
    Calls Tryd.prog 62 #[.pointer (some ⟨g, 0, none⟩)] w (EPost w0 w g l (wevent l s).1 (wevent l s).2) := by
  generalize hW1 : (w.alloc (.cells #[.string ⟨#[]⟩, .int .i64 0, .slice none 0 0] 69)).alloc (.cells #[.string ⟨#[]⟩, .int .i64 0, .slice none 0 0] 69) = W1
  have HW1 := Lib.hid hW1
  have hb0 : Below w.heap.size w (w.alloc (.cells #[.string ⟨#[]⟩, .int .i64 0, .slice none 0 0] 69)) := below_new w _
  have hb1 : Below (w.alloc (.cells #[.string ⟨#[]⟩, .int .i64 0, .slice none 0 0] 69)).heap.size (w.alloc (.cells #[.string ⟨#[]⟩, .int .i64 0, .slice none 0 0] 69)) W1 := by rw [← hW1]; exact below_new _ _
  have hb := below_step hb0 hb1
  have hE : EvS w0 w g l w.heap.size (w.heap.size + 1) s ⟨#[]⟩ 0 [] W1 (.slice none 0 0) := by
    refine ⟨hR.below hb, ?_, blk_below (blk_new w _) hb1, Kd.R_nil _ _ _ _ _, Ro.of_below hb, hR.2.1.size, Nat.le_refl _, by omega, by omega, hR.lt⟩
    rw [← hW1]
    have := blk_new (w.alloc (.cells #[.string ⟨#[]⟩, .int .i64 0, .slice none 0 0] 69)) (.cells #[.string ⟨#[]⟩, .int .i64 0, .slice none 0 0] 69)
    rw [show (w.alloc (.cells #[.string ⟨#[]⟩, .int .i64 0, .slice none 0 0] 69)).heap.size = w.heap.size + 1 by simp] at this
    exact this
  have HE := Lib.hid hE
  have HN := Lib.hid (fun W (s : Ws) lo hi (hW : WRAt w0 W g l s) => wnum_any lo hi hW hl hm)
  have HB := Lib.hid (fun W (s : Ws) n (hW : WRAt w0 W g l s) hn => wbytes_any n hW hn hm)
  have HV := Lib.hid (fun W (s : Ws) (hW : WRAt w0 W g l s) => wvalue_any hW hl hm)
  have HNM := Lib.hid (fun W t (hW : Below w0.heap.size w0 W) => Name_any t W (hG.below hW))
  have hev : wevent l s = (⟨(wname l s).1, (wtime l (wname l s).2).1, (wvals l (wcount l (wtime l (wname l s).2).2).1.toNat (wcount l (wtime l (wname l s).2).2).2).1⟩, (wvals l (wcount l (wtime l (wname l s).2).2).1.toNat (wcount l (wtime l (wname l s).2).2).2).2) := rfl
  have hnm : wname l s = ((wbytes l (wnum l 1 32 s).1.toNat (wnum l 1 32 s).2).1, if nameB (wbytes l (wnum l 1 32 s).1.toNat (wnum l 1 32 s).2).1 = true then (wbytes l (wnum l 1 32 s).1.toNat (wnum l 1 32 s).2).2 else failW 31 (wbytes l (wnum l 1 32 s).1.toNat (wnum l 1 32 s).2).2) := rfl
  obtain ⟨hn0, hn1⟩ := wnum_rng' (l := l) (lo := 1) (hi := 32) (by decide) (by decide) s
  have hN1 := HN.out W1 s 1 32 hE.rd
  generalize wnum l 1 32 s = r1 at *
  obtain ⟨n1, s1⟩ := r1
  simp only at hn0 hn1 hN1 hnm
  obtain ⟨n1, rfl⟩ := Int.eq_ofNat_of_zero_le hn0
  rw [Int.toNat_natCast] at hnm
  have HB1 := Lib.hid (fun W hW => HB.out W s1 n1 hW (by omega))
  generalize wbytes l n1 s1 = r2 at *
  obtain ⟨tx, s2⟩ := r2
  simp only at hnm
  generalize hwn : wname l s = nm at *
  obtain ⟨tx', s3⟩ := nm
  injection hnm with e1 e2
  subst e1
  have HS3 := Lib.hid e2
  have HEV := Lib.hid hev
  have HN1 := Lib.hid hN1
  clear hW1 hb0 hb1 hb hE hev hn0 hn1 hN1 e2 hR hl hwn
  generalize wevent l s = R at *
  obtain ⟨nb, hnb⟩ : ∃ nb : Bool, nameB tx' = nb := ⟨_, rfl⟩
  have HNB := Lib.hid (show ∀ W, Below w0.heap.size w0 W → Calls Tryd.prog 19 #[.string tx'] W fun e w' => e = .returned (.bool nb) ∧ Drawn0 W w' from fun W hW => by have := HNM.out W tx' hW; rw [hnb] at this; exact this)
  rw [hnb] at HS3
  clear hnb HNM
  go_enter Tryd.func62, Tryd.ntmps62
  go_wp2_with fail
  rw [HW1.out]
  go_wp2_with fail
  refine HN1.out.mono ?_
  rintro e1 w1 ⟨rfl, hR1, hO1⟩
  have HE1 := Lib.hid (HE.out.read hR1 hO1)
  clear hR1 hO1
  go_wp2_with fail
  refine (HB1.out _ HE1.out.rd).mono ?_
  rintro e2 w2 ⟨rfl, hR2, hO2⟩
  have hE2 := HE1.out.read hR2 hO2
  have HE2 := Lib.hid (hE2.set0 tx')
  obtain ⟨y0, y1, y2⟩ := hE2.ev.cells
  obtain ⟨z0, z1, z2⟩ := hE2.ev.free
  clear hR2 hO2 hE2
  cases nb
  · have HS3 : Hid (s3 = failW 31 s2) := Lib.hid (HS3.out.trans (if_neg (by decide)))
    go_wp2_with (first
      | (go_at_call 19; refine (HNB.out _ HE2.out.rd.2.1).mono ?_; rintro e3 w3 ⟨rfl, ⟨m3, rfl⟩⟩; have HEM := Lib.hid (HE2.out.drewN m3))
      | (go_at_call 69; refine (fail_any 31 HEM.out.rd).mono ?_; rintro e3 w3 ⟨rfl, hR3, hO3⟩; have hE3 := HEM.out.read hR3 hO3; have HE3 : Hid (EvS w0 w g l w.heap.size (w.heap.size + 1) s3 tx' 0 [] w3 (.slice none 0 0)) := Lib.hid (by rw [HS3.out]; exact hE3); clear hR3 hO3 hE3 y0 y1 y2 z0 z1 z2))
    have HN4 := Lib.hid (HN.out _ s3 0 wmaxT HE3.out.rd)
    unfold wmaxT at HN4
    have htm : wtime l s3 = wnum l 0 4611686018427387904 s3 := rfl
    rw [htm] at HEV
    generalize wnum l 0 4611686018427387904 s3 = r4 at *
    obtain ⟨tm, s4⟩ := r4
    refine HN4.out.mono ?_
    rintro e4 w4 ⟨rfl, hR4, hO4⟩
    have hE4 := HE3.out.read hR4 hO4
    have HE4 := Lib.hid (hE4.set1 tm)
    obtain ⟨y0, y1, y2⟩ := hE4.ev.cells
    obtain ⟨z0, z1, z2⟩ := hE4.ev.free
    clear hR4 hO4 hE4 HN4 htm
    go_wp2_with fail
    have HN5 := Lib.hid (HN.out _ s4 0 16 HE4.out.rd)
    have hcn : wcount l s4 = wnum l 0 16 s4 := rfl
    obtain ⟨hc0, hc1⟩ := wnum_rng' (l := l) (lo := 0) (hi := 16) (by decide) (by decide) s4
    rw [hcn] at HEV
    generalize wnum l 0 16 s4 = r5 at *
    obtain ⟨cn, s5⟩ := r5
    simp only at hc0 hc1
    obtain ⟨cn, rfl⟩ := Int.eq_ofNat_of_zero_le hc0
    refine HN5.out.mono ?_
    rintro e5 w5 ⟨rfl, hR5, hO5⟩
    have HE5 := Lib.hid (HE4.out.read hR5 hO5)
    clear hR5 hO5 HN5 hcn y0 y1 y2 z0 z1 z2
    have HEV2 : Hid (R = (⟨tx', tm, (wvals l cn s5).1⟩, (wvals l cn s5).2)) := Lib.hid (by rw [HEV.out]; simp only [Int.toNat_natCast])
    clear HEV hc0
    go_wp2_with fail
    go_loopw [20] (fun t20 wr => ∃ (k : Nat) (sk : Ws) (xs : List S66) (v : Value), k ≤ cn ∧ t20 = .int .i64 k ∧ Hid (EvS w0 w g l w.heap.size (w.heap.size + 1) sk tx' tm xs wr v) ∧ Hid (xs.length = k ∧ wvals l cn s5 = (xs ++ (wvals l (cn - k) sk).1, (wvals l (cn - k) sk).2))) (fun t20 _ => cn - (intOf t20).toNat)
    case atStart => exact ⟨0, s5, [], _, by omega, rfl, HE5, Lib.hid ⟨rfl, rfl⟩⟩
    case round =>
      clear HE5
      obtain ⟨k, sk, xs, v, hk, rfl, HEK, HXS⟩ := hrel
      obtain ⟨A, c, rfl⟩ := Kd.R_slice HEK.out.row
      by_cases hlt : k < cn
      · obtain ⟨y0, y1, y2⟩ := HEK.out.ev.cells
        obtain ⟨z0, z1, z2⟩ := HEK.out.ev.free
        have HVK := Lib.hid (HV.out · sk)
        have hws : wvals l (cn - k) sk = ((wvalue l sk).1 :: (wvals l (cn - (k + 1)) (wvalue l sk).2).1, (wvals l (cn - (k + 1)) (wvalue l sk).2).2) := by
          rw [show cn - k = (cn - (k + 1)) + 1 by omega]
          rfl
        have HWS := Lib.hid hws
        have HXL := Lib.hid HXS.out.1
        clear hws
        generalize wvalue l sk = r6 at *
        obtain ⟨p6, s6⟩ := r6
        have hxl : xs.length ≤ 1000000 := by have := HXL.out; omega
        go_wp2_with fail
        go_region_law (first
          | (go_simp; go_at_call 70; refine (HVK.out _ (by first | exact HEK.out.drew.rd | exact HEK.out.rd)).mono ?_; rintro e6 w6 ⟨rfl, hR6, hO6⟩; have HE6 : Hid (EvS w0 w g l w.heap.size (w.heap.size + 1) s6 tx' tm xs w6 (.slice A xs.length c)) := Lib.hid (by first | exact HEK.out.drew.read hR6 hO6 | exact HEK.out.read hR6 hO6); have y26 := HE6.out.ev.cells.2.2; have z26 := HE6.out.ev.free.2.2; have y27 := pw_cell_below (below_new w6 (.cells #[.int .i64 p6.f0, .int .i64 p6.f1, .string p6.f2, .bool p6.f3] 66)) y26)
          | (refine vstep (by rfl) _ _ (by rfl) HE6.out p6 (by rfl) (by rfl) hxl ?_; intro A7 n7 c7 w7 hc7 hf7 HE7))
        all_goals
          go_wp2_with fail
          go_roundw
          case rel => exact ⟨k + 1, s6, xs ++ [p6], _, by omega, by go_num, HE7, Lib.hid ⟨by rw [List.length_append, HXL.out]; rfl, by rw [HXS.out.2, HWS.out]; simp⟩⟩
          case measure => simp [intOf]; omega
      · obtain rfl : k = cn := by omega
        have hfin : R = (⟨tx', tm, xs⟩, sk) := by rw [HEV2.out, HXS.out.2, Nat.sub_self]; simp [wvals]
        subst hfin
        obtain ⟨y0, y1, y2⟩ := HEK.out.ev.cells
        obtain ⟨q0, q1, q2⟩ := HEK.out.an.cells
        obtain ⟨z0, z1, z2⟩ := HEK.out.an.free
        go_wp2_with fail
        have hd := HEK.out.done
        refine bodyPost_ret (results_cell_row rfl _ _ w.heap.size 69 #[.string tx', .int .i64 tm, .slice A xs.length c] (0, 0) _ rfl hd.1 Tryd.underlying69 rfl (by kernel_rfl)) rfl ?_
        exact ⟨_, rfl, hd.2.2.1, hd.2.1, hd.2.2.2⟩
  · have h32 : s3 = s2 := HS3.out.trans (if_pos rfl)
    have HS3 : Hid (s3 = s2) := Lib.hid h32
    clear h32
    go_wp2_with fail
    refine (HNB.out _ HE2.out.rd.2.1).mono ?_
    rintro e3 w3 ⟨rfl, ⟨m3, rfl⟩⟩
    have hE3 := HE2.out.drewN m3
    have e32 : s3 = s2 := HS3.out
    rw [← e32] at hE3
    clear e32
    have HE3 := Lib.hid hE3
    clear y0 y1 y2 z0 z1 z2 hE3
    go_wp2_with fail
    have HN4 := Lib.hid (HN.out _ s3 0 wmaxT HE3.out.rd)
    unfold wmaxT at HN4
    have htm : wtime l s3 = wnum l 0 4611686018427387904 s3 := rfl
    rw [htm] at HEV
    generalize wnum l 0 4611686018427387904 s3 = r4 at *
    obtain ⟨tm, s4⟩ := r4
    refine HN4.out.mono ?_
    rintro e4 w4 ⟨rfl, hR4, hO4⟩
    have hE4 := HE3.out.read hR4 hO4
    have HE4 := Lib.hid (hE4.set1 tm)
    obtain ⟨y0, y1, y2⟩ := hE4.ev.cells
    obtain ⟨z0, z1, z2⟩ := hE4.ev.free
    clear hR4 hO4 hE4 HN4 htm
    go_wp2_with fail
    have HN5 := Lib.hid (HN.out _ s4 0 16 HE4.out.rd)
    have hcn : wcount l s4 = wnum l 0 16 s4 := rfl
    obtain ⟨hc0, hc1⟩ := wnum_rng' (l := l) (lo := 0) (hi := 16) (by decide) (by decide) s4
    rw [hcn] at HEV
    generalize wnum l 0 16 s4 = r5 at *
    obtain ⟨cn, s5⟩ := r5
    simp only at hc0 hc1
    obtain ⟨cn, rfl⟩ := Int.eq_ofNat_of_zero_le hc0
    refine HN5.out.mono ?_
    rintro e5 w5 ⟨rfl, hR5, hO5⟩
    have HE5 := Lib.hid (HE4.out.read hR5 hO5)
    clear hR5 hO5 HN5 hcn y0 y1 y2 z0 z1 z2
    have HEV2 : Hid (R = (⟨tx', tm, (wvals l cn s5).1⟩, (wvals l cn s5).2)) := Lib.hid (by rw [HEV.out]; simp only [Int.toNat_natCast])
    clear HEV hc0
    go_wp2_with fail
    go_loopw [20] (fun t20 wr => ∃ (k : Nat) (sk : Ws) (xs : List S66) (v : Value), k ≤ cn ∧ t20 = .int .i64 k ∧ Hid (EvS w0 w g l w.heap.size (w.heap.size + 1) sk tx' tm xs wr v) ∧ Hid (xs.length = k ∧ wvals l cn s5 = (xs ++ (wvals l (cn - k) sk).1, (wvals l (cn - k) sk).2))) (fun t20 _ => cn - (intOf t20).toNat)
    case atStart => exact ⟨0, s5, [], _, by omega, rfl, HE5, Lib.hid ⟨rfl, rfl⟩⟩
    case round =>
      clear HE5
      obtain ⟨k, sk, xs, v, hk, rfl, HEK, HXS⟩ := hrel
      obtain ⟨A, c, rfl⟩ := Kd.R_slice HEK.out.row
      by_cases hlt : k < cn
      · obtain ⟨y0, y1, y2⟩ := HEK.out.ev.cells
        obtain ⟨z0, z1, z2⟩ := HEK.out.ev.free
        have HVK := Lib.hid (HV.out · sk)
        have hws : wvals l (cn - k) sk = ((wvalue l sk).1 :: (wvals l (cn - (k + 1)) (wvalue l sk).2).1, (wvals l (cn - (k + 1)) (wvalue l sk).2).2) := by
          rw [show cn - k = (cn - (k + 1)) + 1 by omega]
          rfl
        have HWS := Lib.hid hws
        have HXL := Lib.hid HXS.out.1
        clear hws
        generalize wvalue l sk = r6 at *
        obtain ⟨p6, s6⟩ := r6
        have hxl : xs.length ≤ 1000000 := by have := HXL.out; omega
        go_wp2_with fail
        go_region_law (first
          | (go_simp; go_at_call 70; refine (HVK.out _ (by first | exact HEK.out.drew.rd | exact HEK.out.rd)).mono ?_; rintro e6 w6 ⟨rfl, hR6, hO6⟩; have HE6 : Hid (EvS w0 w g l w.heap.size (w.heap.size + 1) s6 tx' tm xs w6 (.slice A xs.length c)) := Lib.hid (by first | exact HEK.out.drew.read hR6 hO6 | exact HEK.out.read hR6 hO6); have y26 := HE6.out.ev.cells.2.2; have z26 := HE6.out.ev.free.2.2; have y27 := pw_cell_below (below_new w6 (.cells #[.int .i64 p6.f0, .int .i64 p6.f1, .string p6.f2, .bool p6.f3] 66)) y26)
          | (refine vstep (by rfl) _ _ (by rfl) HE6.out p6 (by rfl) (by rfl) hxl ?_; intro A7 n7 c7 w7 hc7 hf7 HE7))
        all_goals
          go_wp2_with fail
          go_roundw
          case rel => exact ⟨k + 1, s6, xs ++ [p6], _, by omega, by go_num, HE7, Lib.hid ⟨by rw [List.length_append, HXL.out]; rfl, by rw [HXS.out.2, HWS.out]; simp⟩⟩
          case measure => simp [intOf]; omega
      · obtain rfl : k = cn := by omega
        have hfin : R = (⟨tx', tm, xs⟩, sk) := by rw [HEV2.out, HXS.out.2, Nat.sub_self]; simp [wvals]
        subst hfin
        obtain ⟨y0, y1, y2⟩ := HEK.out.ev.cells
        obtain ⟨q0, q1, q2⟩ := HEK.out.an.cells
        obtain ⟨z0, z1, z2⟩ := HEK.out.an.free
        go_wp2_with fail
        have hd := HEK.out.done
        refine bodyPost_ret (results_cell_row rfl _ _ w.heap.size 69 #[.string tx', .int .i64 tm, .slice A xs.length c] (0, 0) _ rfl hd.1 Tryd.underlying69 rfl (by kernel_rfl)) rfl ?_
        exact ⟨_, rfl, hd.2.2.1, hd.2.1, hd.2.2.2⟩
end Go.Proofs.YtcfgmkmllcfjjaaDoor
